/- Parts of the proof of lexerJoins_holds, kept and merged by a program of mine (wip/tools/slim.py) out of my texts: Q27 PureLexerJoins -/
import Derived.Test.YtekkaoenabjeiaaSLexJn4
import Derived.Test.YtekkaoenabjeiaaSLexJn18
import Derived.Test.YtekkaoenabjeiaaSLexJn14
import Derived.Test.YtekkaoenabjeiaaSLexJn5
section
namespace Go.Proofs.Ytekkaoenabjeiaa.X
end Go.Proofs.Ytekkaoenabjeiaa.X
namespace Go.Proofs.Ytekkaoenabjeiaa.Q
open Go.RowKit Go.Proofs.YtekkaoenabjeiaaW.PrintWords Go.Proofs.YtekkaoenabjeiaaW.PrintLast Go.Proofs.YtekkaoenabjeiaaW.PrintMore
attribute [local go_sem] max2_int min2_int max_two min_two max_three min_three max_four min_four   
open Go.Proofs.Ytekkaoenabjeiaa.X
set_option linter.unusedVariables false
set_option linter.unusedSimpArgs false
attribute [local go_sem high] eqA46
mutual
def topiarylaw12_LexerJoins.j0 : Nat → ByteArray → ByteArray → Bool → List (S46) → List (S46) → Bool → Option (Bool)
  | 0, _, _, _, _, _, _ => none
  | k + 1, x0, x1, x5, x6, x8, x34 => if x34 = true then (some x5) else (if (x6.length : Int) > 0 then (if (x8.length : Int) > 0 then (if 0 ≤ (wrap64 ((x6.length : Int) - 1)) then (if (wrap64 ((x6.length : Int) - 1)) < (x6.length : Int) then (if ((rd_T46 x6 (wrap64 ((x6.length : Int) - 1))).f0) = 6 then (topiarylaw12_LexerJoins.j1 k x0 x1 x5 x6 x8 true) else (if 0 < (x8.length : Int) then (topiarylaw12_LexerJoins.j1 k x0 x1 x5 x6 x8 (((rd_T46 x8 0).f0) == 6)) else (none))) else (none)) else (none)) else (topiarylaw12_LexerJoins.j1 k x0 x1 x5 x6 x8 false)) else (topiarylaw12_LexerJoins.j1 k x0 x1 x5 x6 x8 false))
def topiarylaw12_LexerJoins.j1 : Nat → ByteArray → ByteArray → Bool → List (S46) → List (S46) → Bool → Option (Bool)
  | 0, _, _, _, _, _, _ => none
  | k + 1, x0, x1, x5, x6, x8, x60 => if x60 = true then (some x5) else (if x0.size + x1.size ≤ 9223372036854775807 then ((lexer_Lex.f (x0 ++ x1)).bind fun bt359 => (if bt359.2 = 0 then (topiarylaw12_LexerJoins.j2 k x0 x5 x6 x8 bt359.1 ((bt359.1.length : Int) != (wrap64 ((x6.length : Int) + (x8.length : Int))))) else (topiarylaw12_LexerJoins.j2 k x0 x5 x6 x8 bt359.1 true))) else (none))
def topiarylaw12_LexerJoins.j2 : Nat → ByteArray → Bool → List (S46) → List (S46) → List (S46) → Bool → Option (Bool)
  | 0, _, _, _, _, _, _ => none
  | k + 1, x0, x5, x6, x8, x10, x80 => if x80 = true then (some false) else (topiarylaw12_LexerJoins.l0 k x0 x5 x6 x8 x10 0)
def topiarylaw12_LexerJoins.l0 : Nat → ByteArray → Bool → List (S46) → List (S46) → List (S46) → Int → Option (Bool)
  | 0, _, _, _, _, _, _ => none
  | k + 1, x0, x5, x6, x8, x10, x12 => if x12 < (x10.length : Int) then (if 0 ≤ x12 then (if x12 < (x6.length : Int) then (if (!(((rd_T46 x10 x12).f0) == ((rd_T46 x6 x12).f0)) || (!(((rd_T46 x10 x12).f1) == ((rd_T46 x6 x12).f1)) || (!(((rd_T46 x10 x12).f2) == ((rd_T46 x6 x12).f2)) || (!((((rd_T46 x10 x12).f3).toList) == (((rd_T46 x6 x12).f3).toList)) || (!((((rd_T46 x10 x12).f4).toList) == (((rd_T46 x6 x12).f4).toList))))))) = true then (some false) else (topiarylaw12_LexerJoins.l0 k x0 x5 x6 x8 x10 (wrap64 (x12 + 1)))) else (if 0 ≤ (wrap64 (x12 - (x6.length : Int))) then (if (wrap64 (x12 - (x6.length : Int))) < (x8.length : Int) then (if (!(((rd_T46 x10 x12).f0) == ((rd_T46 x8 (wrap64 (x12 - (x6.length : Int)))).f0)) || (!((wrap64 (((rd_T46 x10 x12).f1) - (x0.size : Int))) == ((rd_T46 x8 (wrap64 (x12 - (x6.length : Int)))).f1)) || (!((wrap64 (((rd_T46 x10 x12).f2) - (x0.size : Int))) == ((rd_T46 x8 (wrap64 (x12 - (x6.length : Int)))).f2)) || (!((((rd_T46 x10 x12).f3).toList) == (((rd_T46 x8 (wrap64 (x12 - (x6.length : Int)))).f3).toList)) || (!((((rd_T46 x10 x12).f4).toList) == (((rd_T46 x8 (wrap64 (x12 - (x6.length : Int)))).f4).toList))))))) = true then (some false) else (topiarylaw12_LexerJoins.l0 k x0 x5 x6 x8 x10 (wrap64 (x12 + 1)))) else (none)) else (none))) else (none)) else (some x5)
end
def topiarylaw12_LexerJoins.f (k : Nat) (a0 : ByteArray) (a1 : ByteArray) : Option (Bool) := (topiarylaw12_awake.f).bind fun t346 => ((topiarylaw12_short.f a0 100).bind fun t347 => ((topiarylaw12_short.f a1 100).bind fun t348 => ((lexer_Lex.f t347).bind fun bt349 => ((lexer_Lex.f t348).bind fun bt353 => (if bt349.2 = 0 then (topiarylaw12_LexerJoins.j0 k t347 t348 t346 bt349.1 bt353.1 (bt353.2 != 0)) else (topiarylaw12_LexerJoins.j0 k t347 t348 t346 bt349.1 bt353.1 true))))))
theorem topiarylaw12_LexerJoins.mono_l : ∀ k, (∀ y0 y1 y2 y3 y4 y5, LeO (topiarylaw12_LexerJoins.j0 k y0 y1 y2 y3 y4 y5) (topiarylaw12_LexerJoins.j0 (k + 1) y0 y1 y2 y3 y4 y5)) ∧ (∀ y0 y1 y2 y3 y4 y5, LeO (topiarylaw12_LexerJoins.j1 k y0 y1 y2 y3 y4 y5) (topiarylaw12_LexerJoins.j1 (k + 1) y0 y1 y2 y3 y4 y5)) ∧ (∀ y0 y1 y2 y3 y4 y5, LeO (topiarylaw12_LexerJoins.j2 k y0 y1 y2 y3 y4 y5) (topiarylaw12_LexerJoins.j2 (k + 1) y0 y1 y2 y3 y4 y5)) ∧ (∀ y0 y1 y2 y3 y4 y5, LeO (topiarylaw12_LexerJoins.l0 k y0 y1 y2 y3 y4 y5) (topiarylaw12_LexerJoins.l0 (k + 1) y0 y1 y2 y3 y4 y5))
  | 0 => ⟨fun _ _ _ _ _ _ r h => by simp [topiarylaw12_LexerJoins.j0] at h, fun _ _ _ _ _ _ r h => by simp [topiarylaw12_LexerJoins.j1] at h, fun _ _ _ _ _ _ r h => by simp [topiarylaw12_LexerJoins.j2] at h, fun _ _ _ _ _ _ r h => by simp [topiarylaw12_LexerJoins.l0] at h⟩
  | k + 1 => by
    obtain ⟨ih0, ih1, ih2, ih3⟩ := topiarylaw12_LexerJoins.mono_l k
    refine ⟨?_, ?_, ?_, ?_⟩
    · intro y0 y1 y2 y3 y4 y5
      unfold topiarylaw12_LexerJoins.j0
      repeat' first
      | (with_reducible exact ih0 _ _ _ _ _ _)
      | (with_reducible exact ih1 _ _ _ _ _ _)
      | (with_reducible exact ih2 _ _ _ _ _ _)
      | (with_reducible exact ih3 _ _ _ _ _ _)
      | (with_reducible exact LeO.refl _)
      | (with_reducible exact LeO.none _)
      | (with_reducible refine LeO.ite ?_ ?_)
      | (with_reducible refine LeO.bind ?_ (fun _ => ?_))
      | exact ih0 _ _ _ _ _ _
      | exact ih1 _ _ _ _ _ _
      | exact ih2 _ _ _ _ _ _
      | exact ih3 _ _ _ _ _ _
      | exact LeO.none _
      | refine LeO.ite ?_ ?_
      | refine LeO.bind ?_ (fun _ => ?_)
    · intro y0 y1 y2 y3 y4 y5
      unfold topiarylaw12_LexerJoins.j1
      repeat' first
      | (with_reducible exact ih0 _ _ _ _ _ _)
      | (with_reducible exact ih1 _ _ _ _ _ _)
      | (with_reducible exact ih2 _ _ _ _ _ _)
      | (with_reducible exact ih3 _ _ _ _ _ _)
      | (with_reducible exact LeO.refl _)
      | (with_reducible exact LeO.none _)
      | (with_reducible refine LeO.ite ?_ ?_)
      | (with_reducible refine LeO.bind ?_ (fun _ => ?_))
      | exact ih0 _ _ _ _ _ _
      | exact ih1 _ _ _ _ _ _
      | exact ih2 _ _ _ _ _ _
      | exact ih3 _ _ _ _ _ _
      | exact LeO.none _
      | refine LeO.ite ?_ ?_
      | refine LeO.bind ?_ (fun _ => ?_)
    · intro y0 y1 y2 y3 y4 y5
      unfold topiarylaw12_LexerJoins.j2
      repeat' first
      | (with_reducible exact ih0 _ _ _ _ _ _)
      | (with_reducible exact ih1 _ _ _ _ _ _)
      | (with_reducible exact ih2 _ _ _ _ _ _)
      | (with_reducible exact ih3 _ _ _ _ _ _)
      | (with_reducible exact LeO.refl _)
      | (with_reducible exact LeO.none _)
      | (with_reducible refine LeO.ite ?_ ?_)
      | (with_reducible refine LeO.bind ?_ (fun _ => ?_))
      | exact ih0 _ _ _ _ _ _
      | exact ih1 _ _ _ _ _ _
      | exact ih2 _ _ _ _ _ _
      | exact ih3 _ _ _ _ _ _
      | exact LeO.none _
      | refine LeO.ite ?_ ?_
      | refine LeO.bind ?_ (fun _ => ?_)
    · intro y0 y1 y2 y3 y4 y5
      unfold topiarylaw12_LexerJoins.l0
      repeat' first
      | (with_reducible exact ih0 _ _ _ _ _ _)
      | (with_reducible exact ih1 _ _ _ _ _ _)
      | (with_reducible exact ih2 _ _ _ _ _ _)
      | (with_reducible exact ih3 _ _ _ _ _ _)
      | (with_reducible exact LeO.refl _)
      | (with_reducible exact LeO.none _)
      | (with_reducible refine LeO.ite ?_ ?_)
      | (with_reducible refine LeO.bind ?_ (fun _ => ?_))
      | exact ih0 _ _ _ _ _ _
      | exact ih1 _ _ _ _ _ _
      | exact ih2 _ _ _ _ _ _
      | exact ih3 _ _ _ _ _ _
      | exact LeO.none _
      | refine LeO.ite ?_ ?_
      | refine LeO.bind ?_ (fun _ => ?_)
theorem topiarylaw12_LexerJoins.mono : ∀ a0 a1 k, LeO (topiarylaw12_LexerJoins.f k a0 a1) (topiarylaw12_LexerJoins.f (k + 1) a0 a1) := by
  intro a0 a1 k
  obtain ⟨ih0, ih1, ih2, ih3⟩ := topiarylaw12_LexerJoins.mono_l k
  unfold topiarylaw12_LexerJoins.f
  repeat' first
      | (with_reducible exact ih0 _ _ _ _ _ _)
      | (with_reducible exact ih1 _ _ _ _ _ _)
      | (with_reducible exact ih2 _ _ _ _ _ _)
      | (with_reducible exact ih3 _ _ _ _ _ _)
      | (with_reducible exact LeO.refl _)
      | (with_reducible exact LeO.none _)
      | (with_reducible refine LeO.ite ?_ ?_)
      | (with_reducible refine LeO.bind ?_ (fun _ => ?_))
      | exact ih0 _ _ _ _ _ _
      | exact ih1 _ _ _ _ _ _
      | exact ih2 _ _ _ _ _ _
      | exact ih3 _ _ _ _ _ _
      | exact LeO.none _
      | refine LeO.ite ?_ ?_
      | refine LeO.bind ?_ (fun _ => ?_)
set_option maxHeartbeats 8000000 in
set_option maxRecDepth 100000 in
theorem topiarylaw12_LexerJoins.calls (k : Nat) (a0 : ByteArray) (a1 : ByteArray) (r : Bool) (w : World) (hG : G w) (h : topiarylaw12_LexerJoins.f k a0 a1 = some r) :
    Calls Try.prog 12 #[.string a0, .string a1] w fun e w' => e = .returned (.bool r) ∧ Below w.heap.size w w' := by
  have hu46 := Try.underlying46
  have HB := Aside0.mk (Below.refl w.heap.size w)
  have H : ((topiarylaw12_awake.f).bind fun t346 => ((topiarylaw12_short.f a0 100).bind fun t347 => ((topiarylaw12_short.f a1 100).bind fun t348 => ((lexer_Lex.f t347).bind fun bt349 => ((lexer_Lex.f t348).bind fun bt353 => (if bt349.2 = 0 then (topiarylaw12_LexerJoins.j0 k t347 t348 t346 bt349.1 bt353.1 (bt353.2 != 0)) else (topiarylaw12_LexerJoins.j0 k t347 t348 t346 bt349.1 bt353.1 true))))))) = some r := h
  clear h
  replace H := Option.bind_eq_some_iff.mp H
  obtain ⟨t346, A30, H⟩ := H
  replace H : ((topiarylaw12_short.f a0 100).bind fun t347 => ((topiarylaw12_short.f a1 100).bind fun t348 => ((lexer_Lex.f t347).bind fun bt349 => ((lexer_Lex.f t348).bind fun bt353 => (if bt349.2 = 0 then (topiarylaw12_LexerJoins.j0 k t347 t348 t346 bt349.1 bt353.1 (bt353.2 != 0)) else (topiarylaw12_LexerJoins.j0 k t347 t348 t346 bt349.1 bt353.1 true)))))) = some r := H
  have A3 := Aside0.mk A30
  clear A30
  replace H := Option.bind_eq_some_iff.mp H
  obtain ⟨t347, A40, H⟩ := H
  replace H : ((topiarylaw12_short.f a1 100).bind fun t348 => ((lexer_Lex.f t347).bind fun bt349 => ((lexer_Lex.f t348).bind fun bt353 => (if bt349.2 = 0 then (topiarylaw12_LexerJoins.j0 k t347 t348 t346 bt349.1 bt353.1 (bt353.2 != 0)) else (topiarylaw12_LexerJoins.j0 k t347 t348 t346 bt349.1 bt353.1 true))))) = some r := H
  have A4 := Aside0.mk A40
  clear A40
  replace H := Option.bind_eq_some_iff.mp H
  obtain ⟨t348, A50, H⟩ := H
  replace H : ((lexer_Lex.f t347).bind fun bt349 => ((lexer_Lex.f t348).bind fun bt353 => (if bt349.2 = 0 then (topiarylaw12_LexerJoins.j0 k t347 t348 t346 bt349.1 bt353.1 (bt353.2 != 0)) else (topiarylaw12_LexerJoins.j0 k t347 t348 t346 bt349.1 bt353.1 true)))) = some r := H
  have A5 := Aside0.mk A50
  clear A50
  replace H := Option.bind_eq_some_iff.mp H
  obtain ⟨⟨t349, t350⟩, A60, H⟩ := H
  replace H : ((lexer_Lex.f t348).bind fun bt353 => (if t350 = 0 then (topiarylaw12_LexerJoins.j0 k t347 t348 t346 t349 bt353.1 (bt353.2 != 0)) else (topiarylaw12_LexerJoins.j0 k t347 t348 t346 t349 bt353.1 true))) = some r := H
  have A6 := Aside0.mk A60
  clear A60
  replace H := Option.bind_eq_some_iff.mp H
  obtain ⟨⟨t353, t354⟩, A70, H⟩ := H
  replace H : (if t350 = 0 then (topiarylaw12_LexerJoins.j0 k t347 t348 t346 t349 t353 (t354 != 0)) else (topiarylaw12_LexerJoins.j0 k t347 t348 t346 t349 t353 true)) = some r := H
  have A7 := Aside0.mk A70
  clear A70
  have HC8 := Aside0.mk H
  clear H
  go_enter Try.func12, Try.ntmps12
  go_upto_region 6 with (first | (go_at_call 37; (with_reducible refine (topiarylaw12_awake.calls  t346 _ (by first | exact hG | exact G.below hG (by repeat (first | (with_reducible first | exact HB.out | apply below_alloc | apply pw_below_drewN | apply below_drew1) | exact HB.out))) A3.out).mono ?_); rintro e w9 ⟨rfl, hb⟩; have n0_ := Aside0.mk (below_step (by repeat (first | (with_reducible first | exact HB.out | apply below_alloc | apply pw_below_drewN | apply below_drew1) | exact HB.out)) hb); clear HB; have HB := n0_; clear n0_; (try clear hb); (try clear hb2); (try clear hk); (try clear hi)) | (go_at_call 38; (with_reducible refine (topiarylaw12_short.calls a0 100 t347 _ A4.out).mono ?_); rintro e w' ⟨rfl, ⟨nd, rfl⟩⟩; (try first | exact ⟨rfl, _, World.drewN_drewN _ _ _⟩ | exact ⟨rfl, _, Eq.trans (World.drewN_drewN _ _ _) (congrArg (World.drewN _) (Nat.add_assoc _ _ _))⟩)) | (go_at_call 38; (with_reducible refine (topiarylaw12_short.calls a1 100 t348 _ A5.out).mono ?_); rintro e w' ⟨rfl, ⟨nd, rfl⟩⟩; (try first | exact ⟨rfl, _, World.drewN_drewN _ _ _⟩ | exact ⟨rfl, _, Eq.trans (World.drewN_drewN _ _ _) (congrArg (World.drewN _) (Nat.add_assoc _ _ _))⟩)) | (go_at_call 39; (with_reducible refine (lexer_Lex.calls t347 t349 t350 _ (by first | exact hG | exact G.below hG (by repeat (first | (with_reducible first | exact HB.out | apply below_alloc | apply pw_below_drewN | apply below_drew1) | exact HB.out))) A6.out).mono ?_); rintro e w10 ⟨v351, rfl, ho0, hb⟩; have n0_ := Aside0.mk (Kd.R_lower ho0 (below_size (by repeat (first | (with_reducible first | exact HB.out | apply below_alloc | apply pw_below_drewN | apply below_drew1) | exact HB.out)))); have n1_ := Aside0.mk (below_step (by repeat (first | (with_reducible first | exact HB.out | apply below_alloc | apply pw_below_drewN | apply below_drew1) | exact HB.out)) hb); clear HB; have HO352 := n0_; have HB := n1_; clear n0_ n1_; (try clear hb); (try clear hb2); (try clear hk); (try clear hi); (try clear ho0)) | (go_at_call 39; (with_reducible refine (lexer_Lex.calls t348 t353 t354 _ (by first | exact hG | exact G.below hG (by repeat (first | (with_reducible first | exact HB.out | apply below_alloc | apply pw_below_drewN | apply below_drew1) | exact HB.out))) A7.out).mono ?_); rintro e w11 ⟨v355, rfl, ho0, hb⟩; have n0_ := Aside0.mk (Kd.R_elder' (by (with_reducible repeat (first | apply Kd.R_alloc | apply Kd.R_drewN | apply Kd.R_drew)); exact HO352.out) (Kd.R_base ho0) hb); have n1_ := Aside0.mk (Kd.R_lower (Kd.R_new' ho0 (Kd.R_lt (by (with_reducible repeat (first | apply Kd.R_alloc | apply Kd.R_drewN | apply Kd.R_drew)); exact HO352.out))) (below_size (by repeat (first | (with_reducible first | exact HB.out | apply below_alloc | apply pw_below_drewN | apply below_drew1) | exact HB.out)))); have n2_ := Aside0.mk (below_step (by repeat (first | (with_reducible first | exact HB.out | apply below_alloc | apply pw_below_drewN | apply below_drew1) | exact HB.out)) hb); clear HO352; clear HB; have HO352 := n0_; have HO356 := n1_; have HB := n2_; clear n0_ n1_ n2_; (try clear hb); (try clear hb2); (try clear hk); (try clear hi); (try clear ho0)))
  repeat (go_quiet (first | (go_at_call 37; (with_reducible refine (topiarylaw12_awake.calls  t346 _ (by first | exact hG | exact G.below hG (by repeat (first | (with_reducible first | exact HB.out | apply below_alloc | apply pw_below_drewN | apply below_drew1) | exact HB.out))) A3.out).mono ?_); rintro e w9 ⟨rfl, hb⟩; have n0_ := Aside0.mk (below_step (by repeat (first | (with_reducible first | exact HB.out | apply below_alloc | apply pw_below_drewN | apply below_drew1) | exact HB.out)) hb); clear HB; have HB := n0_; clear n0_; (try clear hb); (try clear hb2); (try clear hk); (try clear hi)) | (go_at_call 38; (with_reducible refine (topiarylaw12_short.calls a0 100 t347 _ A4.out).mono ?_); rintro e w' ⟨rfl, ⟨nd, rfl⟩⟩; (try first | exact ⟨rfl, _, World.drewN_drewN _ _ _⟩ | exact ⟨rfl, _, Eq.trans (World.drewN_drewN _ _ _) (congrArg (World.drewN _) (Nat.add_assoc _ _ _))⟩)) | (go_at_call 38; (with_reducible refine (topiarylaw12_short.calls a1 100 t348 _ A5.out).mono ?_); rintro e w' ⟨rfl, ⟨nd, rfl⟩⟩; (try first | exact ⟨rfl, _, World.drewN_drewN _ _ _⟩ | exact ⟨rfl, _, Eq.trans (World.drewN_drewN _ _ _) (congrArg (World.drewN _) (Nat.add_assoc _ _ _))⟩)) | (go_at_call 39; (with_reducible refine (lexer_Lex.calls t347 t349 t350 _ (by first | exact hG | exact G.below hG (by repeat (first | (with_reducible first | exact HB.out | apply below_alloc | apply pw_below_drewN | apply below_drew1) | exact HB.out))) A6.out).mono ?_); rintro e w10 ⟨v351, rfl, ho0, hb⟩; have n0_ := Aside0.mk (Kd.R_lower ho0 (below_size (by repeat (first | (with_reducible first | exact HB.out | apply below_alloc | apply pw_below_drewN | apply below_drew1) | exact HB.out)))); have n1_ := Aside0.mk (below_step (by repeat (first | (with_reducible first | exact HB.out | apply below_alloc | apply pw_below_drewN | apply below_drew1) | exact HB.out)) hb); clear HB; have HO352 := n0_; have HB := n1_; clear n0_ n1_; (try clear hb); (try clear hb2); (try clear hk); (try clear hi); (try clear ho0)) | (go_at_call 39; (with_reducible refine (lexer_Lex.calls t348 t353 t354 _ (by first | exact hG | exact G.below hG (by repeat (first | (with_reducible first | exact HB.out | apply below_alloc | apply pw_below_drewN | apply below_drew1) | exact HB.out))) A7.out).mono ?_); rintro e w11 ⟨v355, rfl, ho0, hb⟩; have n0_ := Aside0.mk (Kd.R_elder' (by (with_reducible repeat (first | apply Kd.R_alloc | apply Kd.R_drewN | apply Kd.R_drew)); exact HO352.out) (Kd.R_base ho0) hb); have n1_ := Aside0.mk (Kd.R_lower (Kd.R_new' ho0 (Kd.R_lt (by (with_reducible repeat (first | apply Kd.R_alloc | apply Kd.R_drewN | apply Kd.R_drew)); exact HO352.out))) (below_size (by repeat (first | (with_reducible first | exact HB.out | apply below_alloc | apply pw_below_drewN | apply below_drew1) | exact HB.out)))); have n2_ := Aside0.mk (below_step (by repeat (first | (with_reducible first | exact HB.out | apply below_alloc | apply pw_below_drewN | apply below_drew1) | exact HB.out)) hb); clear HO352; clear HB; have HO352 := n0_; have HO356 := n1_; have HB := n2_; clear n0_ n1_ n2_; (try clear hb); (try clear hb2); (try clear hk); (try clear hi); (try clear ho0))); go_upto_region 6 with (first | (go_at_call 37; (with_reducible refine (topiarylaw12_awake.calls  t346 _ (by first | exact hG | exact G.below hG (by repeat (first | (with_reducible first | exact HB.out | apply below_alloc | apply pw_below_drewN | apply below_drew1) | exact HB.out))) A3.out).mono ?_); rintro e w9 ⟨rfl, hb⟩; have n0_ := Aside0.mk (below_step (by repeat (first | (with_reducible first | exact HB.out | apply below_alloc | apply pw_below_drewN | apply below_drew1) | exact HB.out)) hb); clear HB; have HB := n0_; clear n0_; (try clear hb); (try clear hb2); (try clear hk); (try clear hi)) | (go_at_call 38; (with_reducible refine (topiarylaw12_short.calls a0 100 t347 _ A4.out).mono ?_); rintro e w' ⟨rfl, ⟨nd, rfl⟩⟩; (try first | exact ⟨rfl, _, World.drewN_drewN _ _ _⟩ | exact ⟨rfl, _, Eq.trans (World.drewN_drewN _ _ _) (congrArg (World.drewN _) (Nat.add_assoc _ _ _))⟩)) | (go_at_call 38; (with_reducible refine (topiarylaw12_short.calls a1 100 t348 _ A5.out).mono ?_); rintro e w' ⟨rfl, ⟨nd, rfl⟩⟩; (try first | exact ⟨rfl, _, World.drewN_drewN _ _ _⟩ | exact ⟨rfl, _, Eq.trans (World.drewN_drewN _ _ _) (congrArg (World.drewN _) (Nat.add_assoc _ _ _))⟩)) | (go_at_call 39; (with_reducible refine (lexer_Lex.calls t347 t349 t350 _ (by first | exact hG | exact G.below hG (by repeat (first | (with_reducible first | exact HB.out | apply below_alloc | apply pw_below_drewN | apply below_drew1) | exact HB.out))) A6.out).mono ?_); rintro e w10 ⟨v351, rfl, ho0, hb⟩; have n0_ := Aside0.mk (Kd.R_lower ho0 (below_size (by repeat (first | (with_reducible first | exact HB.out | apply below_alloc | apply pw_below_drewN | apply below_drew1) | exact HB.out)))); have n1_ := Aside0.mk (below_step (by repeat (first | (with_reducible first | exact HB.out | apply below_alloc | apply pw_below_drewN | apply below_drew1) | exact HB.out)) hb); clear HB; have HO352 := n0_; have HB := n1_; clear n0_ n1_; (try clear hb); (try clear hb2); (try clear hk); (try clear hi); (try clear ho0)) | (go_at_call 39; (with_reducible refine (lexer_Lex.calls t348 t353 t354 _ (by first | exact hG | exact G.below hG (by repeat (first | (with_reducible first | exact HB.out | apply below_alloc | apply pw_below_drewN | apply below_drew1) | exact HB.out))) A7.out).mono ?_); rintro e w11 ⟨v355, rfl, ho0, hb⟩; have n0_ := Aside0.mk (Kd.R_elder' (by (with_reducible repeat (first | apply Kd.R_alloc | apply Kd.R_drewN | apply Kd.R_drew)); exact HO352.out) (Kd.R_base ho0) hb); have n1_ := Aside0.mk (Kd.R_lower (Kd.R_new' ho0 (Kd.R_lt (by (with_reducible repeat (first | apply Kd.R_alloc | apply Kd.R_drewN | apply Kd.R_drew)); exact HO352.out))) (below_size (by repeat (first | (with_reducible first | exact HB.out | apply below_alloc | apply pw_below_drewN | apply below_drew1) | exact HB.out)))); have n2_ := Aside0.mk (below_step (by repeat (first | (with_reducible first | exact HB.out | apply below_alloc | apply pw_below_drewN | apply below_drew1) | exact HB.out)) hb); clear HO352; clear HB; have HO352 := n0_; have HO356 := n1_; have HB := n2_; clear n0_ n1_ n2_; (try clear hb); (try clear hb2); (try clear hk); (try clear hi); (try clear ho0))))
  (try simp only [Act.put, List.setIfInBounds_toArray, List.set_cons_zero, List.set_cons_succ])
  go_cut [34] (fun v34 wc => ∃ (kq : Nat) (x34_7 : Bool), v34 = .bool x34_7 ∧ Aside0 (topiarylaw12_LexerJoins.j0 kq t347 t348 t346 t349 t353 x34_7 = some r) ∧ Aside0 (kq ≤ k) ∧ Aside0 (Kd.R k46 46 wc w.heap.size (fun k_ => some k_ ≠ (v355 : Value).ownBlock) v351 t349) ∧ Aside0 (Kd.R k46 46 wc w.heap.size (fun k_ => some k_ ≠ (v351 : Value).ownBlock) v355 t353) ∧ Aside0 (Below w.heap.size w wc))
  case first =>
    have H := HC8.out
    clear HC8
    by_cases c12 : t350 = 0
    · rw [if_pos c12] at H
      have c12b0 : (t350 == 0) = true := beq_iff_eq.mpr c12
      have c12b1 : (t350 != 0) = false := bne_eq_false_iff_eq.mpr c12
      clear c12
      (first | rw [c12b0] | (simp only [i64_w, i32_w]; rw [c12b0]) | skip)
      have H' := Aside0.mk H
      clear H
      go_wp2
      repeat (go_quiet (fail); try go_wp2)
      go_meet
      case rel => exact ⟨_, ((t354 != 0)), (by first | rfl | (simp; done) | (simp [*]; done)), H', ⟨by first | omega | exact Nat.le_refl _⟩, ⟨by (with_reducible repeat (first | apply Kd.R_alloc | apply Kd.R_drewN | apply Kd.R_drew)); exact Kd.R_mono HO352.out (fun _ hk => hk.2)⟩, ⟨by (with_reducible repeat (first | apply Kd.R_alloc | apply Kd.R_drewN | apply Kd.R_drew)); exact Kd.R_mono HO356.out (fun _ hk => hk.2)⟩, ⟨by repeat (first | (with_reducible first | exact HB.out | apply below_alloc | apply pw_below_drewN | apply below_drew1) | exact HB.out)⟩⟩
    · rw [if_neg c12] at H
      have c12b0 : (t350 == 0) = false := beq_eq_false_iff_ne.mpr c12
      have c12b1 : (t350 != 0) = true := bne_iff_ne.mpr c12
      (first | rw [c12b0] | (simp only [i64_w, i32_w]; rw [c12b0]) | skip)
      have H' := Aside0.mk H
      clear H
      go_wp2
      repeat (go_quiet (fail); try go_wp2)
      go_meet
      case rel => exact ⟨_, (true), (by first | rfl | (simp; done) | (simp [*]; done)), H', ⟨by first | omega | exact Nat.le_refl _⟩, ⟨by (with_reducible repeat (first | apply Kd.R_alloc | apply Kd.R_drewN | apply Kd.R_drew)); exact Kd.R_mono HO352.out (fun _ hk => hk.2)⟩, ⟨by (with_reducible repeat (first | apply Kd.R_alloc | apply Kd.R_drewN | apply Kd.R_drew)); exact Kd.R_mono HO356.out (fun _ hk => hk.2)⟩, ⟨by repeat (first | (with_reducible first | exact HB.out | apply below_alloc | apply pw_below_drewN | apply below_drew1) | exact HB.out)⟩⟩
  case rest =>
    clear HC8
    try clear c1
    try clear p2
    try clear c12
    try clear c12b0
    try clear c12b1
    obtain ⟨kq, x34_7, rfl, HA, HJ7, HO_6, HO_8, HB⟩ := hcut
    cases kq with
    | zero => exact absurd HA.out (by simp [topiarylaw12_LexerJoins.j0])
    | succ kj7 =>
      have H := HA.out
      clear HA
      simp only [topiarylaw12_LexerJoins.j0] at H
      by_cases c13 : x34_7 = true
      · subst c13
        have H1 : (some t346) = some r := by rw [if_pos rfl] at H; exact H
        clear H
        have H := H1
        clear H1
        obtain rfl := Option.some.inj H
        go_wp2
        repeat (go_quiet (fail); try go_wp2)
        go_ret
        exact ⟨by first | rfl | (simp [errW_none, errW_some] <;> rfl) | (simp [*, errW_none, errW_some] <;> rfl), by repeat (first | (with_reducible first | exact HB.out | apply below_alloc | apply pw_below_drewN | apply below_drew1) | exact HB.out)⟩
      · replace c13 := Bool.eq_false_iff.mpr c13
        subst c13
        have H1 : (if (t349.length : Int) > 0 then (if (t353.length : Int) > 0 then (if 0 ≤ (wrap64 ((t349.length : Int) - 1)) then (if (wrap64 ((t349.length : Int) - 1)) < (t349.length : Int) then (if ((rd_T46 t349 (wrap64 ((t349.length : Int) - 1))).f0) = 6 then (topiarylaw12_LexerJoins.j1 kj7 t347 t348 t346 t349 t353 true) else (if 0 < (t353.length : Int) then (topiarylaw12_LexerJoins.j1 kj7 t347 t348 t346 t349 t353 (((rd_T46 t353 0).f0) == 6)) else (none))) else (none)) else (none)) else (topiarylaw12_LexerJoins.j1 kj7 t347 t348 t346 t349 t353 false)) else (topiarylaw12_LexerJoins.j1 kj7 t347 t348 t346 t349 t353 false)) = some r := by rw [if_neg (show ¬ (false = true) by decide)] at H; exact H
        clear H
        have H := H1
        clear H1
        have HC14 := Aside0.mk H
        clear H
        go_upto_region 8 with (fail)
        repeat (go_quiet (fail); go_upto_region 8 with (fail))
        go_cut [60] (fun v60 wc => ∃ (kq : Nat) (x60_13 : Bool), v60 = .bool x60_13 ∧ Aside0 (topiarylaw12_LexerJoins.j1 kq t347 t348 t346 t349 t353 x60_13 = some r) ∧ Aside0 (kq ≤ kj7) ∧ Aside0 (Kd.R k46 46 wc w.heap.size (fun k_ => some k_ ≠ (v355 : Value).ownBlock) v351 t349) ∧ Aside0 (Kd.R k46 46 wc w.heap.size (fun k_ => some k_ ≠ (v351 : Value).ownBlock) v355 t353) ∧ Aside0 (Below w.heap.size w wc))
        case first =>
          have H := HC14.out
          clear HC14
          by_cases c15 : (t349.length : Int) > 0
          · rw [if_pos c15] at H
            have c15b0 : decide (0 < (t349.length : Int)) = true := decide_eq_true c15
            have c15b1 : decide (0 < t349.length) = true := decide_eq_true (by omega)
            clear c15
            (first | rw [c15b0] | (simp only [i64_w, i32_w]; rw [c15b0]) | skip)
            by_cases c16 : (t353.length : Int) > 0
            · rw [if_pos c16] at H
              have c16b0 : decide (0 < (t353.length : Int)) = true := decide_eq_true c16
              have c16b1 : decide (0 < t353.length) = true := decide_eq_true (by omega)
              clear c16
              obtain ⟨ji17, hji17⟩ : ∃ j_ : Int, (wrap64 ((t349.length : Int) - 1)) = j_ := ⟨_, rfl⟩
              replace H : (if 0 ≤ (ji17) then (if (ji17) < (t349.length : Int) then (if ((rd_T46 t349 (ji17)).f0) = 6 then (topiarylaw12_LexerJoins.j1 kj7 t347 t348 t346 t349 t353 true) else (if 0 < (t353.length : Int) then (topiarylaw12_LexerJoins.j1 kj7 t347 t348 t346 t349 t353 (((rd_T46 t353 0).f0) == 6)) else (none))) else (none)) else (none)) = some r := by first | (rw [hji17] at H; exact H) | (simp only [hji17] at H ⊢; exact H)
              have hji17w : (IntKind.i64.wrap ((t349.length : Int) - 1)) = ji17 := (i64_w _).trans hji17
              by_cases c18 : 0 ≤ (ji17)
              · rw [if_pos c18] at H
                have c18b0 : decide (0 ≤ (ji17)) = true := decide_eq_true c18
                clear c18
                by_cases c19 : (ji17) < (t349.length : Int)
                · rw [if_pos c19] at H
                  have c19b0 : decide ((ji17) < (t349.length : Int)) = true := decide_eq_true c19
                  clear c19
                  by_cases c20 : ((rd_T46 t349 (ji17)).f0) = 6
                  · rw [if_pos c20] at H
                    have c20b0 : (((rd_T46 t349 (ji17)).f0) == 6) = true := beq_iff_eq.mpr c20
                    have c20b1 : (((rd_T46 t349 (ji17)).f0) != 6) = false := bne_eq_false_iff_eq.mpr c20
                    clear c20
                    have H' := Aside0.mk H
                    clear H
                    obtain ⟨Ao21, co21, eo21⟩ := Kd.R_slice HO_6.out
                    subst eo21
                    obtain ⟨Ao22, co22, eo22⟩ := Kd.R_slice HO_8.out
                    subst eo22
                    have p357 : 0 ≤ ((ji17) : Int) := of_decide_eq_true (by first | (with_reducible assumption) | assumption)
                    have q357 : (ji17) < (t349.length : Int) := of_decide_eq_true (by first | (with_reducible assumption) | assumption)
                    obtain ⟨ad357, e357, hx357_0, hx357_1, hx357_2, hx357_3, hx357_4⟩ := at_T46 (Kd.R_reads' HO_6.out).2.2 (ji17) p357 q357
                    cases e357
                    replace p357 := eq_true p357
                    replace q357 := eq_true q357
                    go_wp2
                    repeat (go_quiet (fail); try go_wp2)
                    go_meet
                    case rel => exact ⟨_, (true), (by first | rfl | (simp; done) | (simp [*]; done)), H', ⟨by have := HJ7.out; first | omega | exact Nat.le_refl _⟩, ⟨by (with_reducible repeat (first | apply Kd.R_alloc | apply Kd.R_drewN | apply Kd.R_drew)); exact HO_6.out⟩, ⟨by (with_reducible repeat (first | apply Kd.R_alloc | apply Kd.R_drewN | apply Kd.R_drew)); exact HO_8.out⟩, ⟨by repeat (first | (with_reducible first | exact HB.out | apply below_alloc | apply pw_below_drewN | apply below_drew1) | exact HB.out)⟩⟩
                  · rw [if_neg c20] at H
                    have c20b0 : (((rd_T46 t349 (ji17)).f0) == 6) = false := beq_eq_false_iff_ne.mpr c20
                    have c20b1 : (((rd_T46 t349 (ji17)).f0) != 6) = true := bne_iff_ne.mpr c20
                    by_cases c23 : 0 < (t353.length : Int)
                    · rw [if_pos c23] at H
                      have c23b0 : decide (0 < (t353.length : Int)) = true := decide_eq_true c23
                      have c23b1 : decide (0 < t353.length) = true := decide_eq_true (by omega)
                      clear c23
                      have H' := Aside0.mk H
                      clear H
                      obtain ⟨Ao24, co24, eo24⟩ := Kd.R_slice HO_6.out
                      subst eo24
                      obtain ⟨Ao25, co25, eo25⟩ := Kd.R_slice HO_8.out
                      subst eo25
                      have p357 : 0 ≤ ((ji17) : Int) := of_decide_eq_true (by first | (with_reducible assumption) | assumption)
                      have q357 : (ji17) < (t349.length : Int) := of_decide_eq_true (by first | (with_reducible assumption) | assumption)
                      obtain ⟨ad357, e357, hx357_0, hx357_1, hx357_2, hx357_3, hx357_4⟩ := at_T46 (Kd.R_reads' HO_6.out).2.2 (ji17) p357 q357
                      cases e357
                      replace p357 := eq_true p357
                      replace q357 := eq_true q357
                      have p358 : 0 ≤ (0 : Int) := (by omega)
                      have q358 : 0 < (t353.length : Int) := of_decide_eq_true (by first | (with_reducible assumption) | assumption)
                      obtain ⟨ad358, e358, hx358_0, hx358_1, hx358_2, hx358_3, hx358_4⟩ := at_T46 (Kd.R_reads' HO_8.out).2.2 0 p358 q358
                      cases e358
                      have qi358 : (0 < t353.length) = True := eq_true (by omega)
                      (try rw [show ((0 : Int)).toNat = 0 from rfl] at hx358_0)
                      (try rw [show 0 * 5 = 0 from rfl] at hx358_0)
                      (try rw [Addr.add_zero'] at hx358_0)
                      (try rw [show ((0 : Int)).toNat = 0 from rfl] at hx358_1)
                      (try rw [show 0 * 5 = 0 from rfl] at hx358_1)
                      (try rw [Addr.add_zero'] at hx358_1)
                      (try rw [show ((0 : Int)).toNat = 0 from rfl] at hx358_2)
                      (try rw [show 0 * 5 = 0 from rfl] at hx358_2)
                      (try rw [Addr.add_zero'] at hx358_2)
                      (try rw [show ((0 : Int)).toNat = 0 from rfl] at hx358_3)
                      (try rw [show 0 * 5 = 0 from rfl] at hx358_3)
                      (try rw [Addr.add_zero'] at hx358_3)
                      (try rw [show ((0 : Int)).toNat = 0 from rfl] at hx358_4)
                      (try rw [show 0 * 5 = 0 from rfl] at hx358_4)
                      (try rw [Addr.add_zero'] at hx358_4)
                      replace p358 := eq_true p358
                      replace q358 := eq_true q358
                      go_wp2
                      repeat (go_quiet (fail); try go_wp2)
                      go_meet
                      case rel => exact ⟨_, ((((rd_T46 t353 0).f0) == 6)), (by first | rfl | (simp; done) | (simp [*]; done)), H', ⟨by have := HJ7.out; first | omega | exact Nat.le_refl _⟩, ⟨by (with_reducible repeat (first | apply Kd.R_alloc | apply Kd.R_drewN | apply Kd.R_drew)); exact HO_6.out⟩, ⟨by (with_reducible repeat (first | apply Kd.R_alloc | apply Kd.R_drewN | apply Kd.R_drew)); exact HO_8.out⟩, ⟨by repeat (first | (with_reducible first | exact HB.out | apply below_alloc | apply pw_below_drewN | apply below_drew1) | exact HB.out)⟩⟩
                    · rw [if_neg c23] at H
                      exact absurd H (by simp)
                · rw [if_neg c19] at H
                  exact absurd H (by simp)
              · rw [if_neg c18] at H
                exact absurd H (by simp)
            · rw [if_neg c16] at H
              have c16b0 : decide (0 < (t353.length : Int)) = false := decide_eq_false c16
              have c16b1 : decide (0 < t353.length) = false := decide_eq_false (by omega)
              clear c16
              have H' := Aside0.mk H
              clear H
              obtain ⟨Ao26, co26, eo26⟩ := Kd.R_slice HO_6.out
              subst eo26
              obtain ⟨Ao27, co27, eo27⟩ := Kd.R_slice HO_8.out
              subst eo27
              go_wp2
              repeat (go_quiet (fail); try go_wp2)
              go_meet
              case rel => exact ⟨_, (false), (by first | rfl | (simp; done) | (simp [*]; done)), H', ⟨by have := HJ7.out; first | omega | exact Nat.le_refl _⟩, ⟨by (with_reducible repeat (first | apply Kd.R_alloc | apply Kd.R_drewN | apply Kd.R_drew)); exact HO_6.out⟩, ⟨by (with_reducible repeat (first | apply Kd.R_alloc | apply Kd.R_drewN | apply Kd.R_drew)); exact HO_8.out⟩, ⟨by repeat (first | (with_reducible first | exact HB.out | apply below_alloc | apply pw_below_drewN | apply below_drew1) | exact HB.out)⟩⟩
          · rw [if_neg c15] at H
            have c15b0 : decide (0 < (t349.length : Int)) = false := decide_eq_false c15
            have c15b1 : decide (0 < t349.length) = false := decide_eq_false (by omega)
            clear c15
            (first | rw [c15b0] | (simp only [i64_w, i32_w]; rw [c15b0]) | skip)
            have H' := Aside0.mk H
            clear H
            obtain ⟨Ao28, co28, eo28⟩ := Kd.R_slice HO_6.out
            subst eo28
            go_wp2
            repeat (go_quiet (fail); try go_wp2)
            go_meet
            case rel => exact ⟨_, (false), (by first | rfl | (simp; done) | (simp [*]; done)), H', ⟨by have := HJ7.out; first | omega | exact Nat.le_refl _⟩, ⟨by (with_reducible repeat (first | apply Kd.R_alloc | apply Kd.R_drewN | apply Kd.R_drew)); exact HO_6.out⟩, ⟨by (with_reducible repeat (first | apply Kd.R_alloc | apply Kd.R_drewN | apply Kd.R_drew)); exact HO_8.out⟩, ⟨by repeat (first | (with_reducible first | exact HB.out | apply below_alloc | apply pw_below_drewN | apply below_drew1) | exact HB.out)⟩⟩
        case rest =>
          clear HC14
          try clear c1
          try clear c2
          try clear p2
          try clear p3
          try clear q3
          try clear hx3
          try clear qi3
          try clear p6
          try clear c12
          try clear c12b0
          try clear c12b1
          try clear c13
          try clear c15
          try clear c15b0
          try clear c15b1
          try clear c16
          try clear c16b0
          try clear c16b1
          try clear c18
          try clear c18b0
          try clear c19
          try clear c19b0
          try clear c20
          try clear c20b0
          try clear c20b1
          try clear c23
          try clear c23b0
          try clear c23b1
          try clear hx357_0
          try clear hx357_1
          try clear hx357_2
          try clear hx357_3
          try clear hx357_4
          try clear hx358_0
          try clear hx358_1
          try clear hx358_2
          try clear hx358_3
          try clear hx358_4
          try clear p2
          try clear p357
          try clear p358
          try clear q357
          try clear q358
          obtain ⟨kq, x60_13, rfl, HA, HJ13, HO_6, HO_8, HB⟩ := hcut
          cases kq with
          | zero => exact absurd HA.out (by simp [topiarylaw12_LexerJoins.j1])
          | succ kj13 =>
            have H := HA.out
            clear HA
            simp only [topiarylaw12_LexerJoins.j1] at H
            by_cases c29 : x60_13 = true
            · subst c29
              have H1 : (some t346) = some r := by rw [if_pos rfl] at H; exact H
              clear H
              have H := H1
              clear H1
              obtain rfl := Option.some.inj H
              go_wp2
              repeat (go_quiet (fail); try go_wp2)
              go_ret
              exact ⟨by first | rfl | (simp [errW_none, errW_some] <;> rfl) | (simp [*, errW_none, errW_some] <;> rfl), by repeat (first | (with_reducible first | exact HB.out | apply below_alloc | apply pw_below_drewN | apply below_drew1) | exact HB.out)⟩
            · replace c29 := Bool.eq_false_iff.mpr c29
              subst c29
              have H1 : (if t347.size + t348.size ≤ 9223372036854775807 then ((lexer_Lex.f (t347 ++ t348)).bind fun bt359 => (if bt359.2 = 0 then (topiarylaw12_LexerJoins.j2 kj13 t347 t346 t349 t353 bt359.1 ((bt359.1.length : Int) != (wrap64 ((t349.length : Int) + (t353.length : Int))))) else (topiarylaw12_LexerJoins.j2 kj13 t347 t346 t349 t353 bt359.1 true))) else (none)) = some r := by rw [if_neg (show ¬ (false = true) by decide)] at H; exact H
              clear H
              have H := H1
              clear H1
              by_cases c30 : t347.size + t348.size ≤ 9223372036854775807
              · rw [if_pos c30] at H
                have c30b0 := eq_true c30
                have c30b1 : decide (t347.size + t348.size ≤ 9223372036854775807) = true := decide_eq_true c30
                try have c30b2 : (9223372036854775807 < t347.size + t348.size) = False := eq_false (Nat.not_lt.2 c30)
                replace H := Option.bind_eq_some_iff.mp H
                obtain ⟨⟨t359, t360⟩, A310, H⟩ := H
                replace H : (if t360 = 0 then (topiarylaw12_LexerJoins.j2 kj13 t347 t346 t349 t353 t359 ((t359.length : Int) != (wrap64 ((t349.length : Int) + (t353.length : Int))))) else (topiarylaw12_LexerJoins.j2 kj13 t347 t346 t349 t353 t359 true)) = some r := H
                have A31 := Aside0.mk A310
                clear A310
                have HC32 := Aside0.mk H
                clear H
                go_upto_region 11 with (first | (go_at_call 39; (with_reducible refine (lexer_Lex.calls (t347 ++ t348) t359 t360 _ (by first | exact hG | exact G.below hG (by repeat (first | (with_reducible first | exact HB.out | apply below_alloc | apply pw_below_drewN | apply below_drew1) | exact HB.out))) A31.out).mono ?_); rintro e w33 ⟨v361, rfl, ho0, hb⟩; have n0_ := Aside0.mk (Kd.R_elder' (by (with_reducible repeat (first | apply Kd.R_alloc | apply Kd.R_drewN | apply Kd.R_drew)); exact HO_6.out) (Kd.R_base ho0) hb); have n1_ := Aside0.mk (Kd.R_elder' (by (with_reducible repeat (first | apply Kd.R_alloc | apply Kd.R_drewN | apply Kd.R_drew)); exact HO_8.out) (Kd.R_base ho0) hb); have n2_ := Aside0.mk (Kd.R_lower (Kd.R_new' (Kd.R_new' ho0 (Kd.R_lt (by (with_reducible repeat (first | apply Kd.R_alloc | apply Kd.R_drewN | apply Kd.R_drew)); exact HO_6.out))) (Kd.R_lt (by (with_reducible repeat (first | apply Kd.R_alloc | apply Kd.R_drewN | apply Kd.R_drew)); exact HO_8.out))) (below_size (by repeat (first | (with_reducible first | exact HB.out | apply below_alloc | apply pw_below_drewN | apply below_drew1) | exact HB.out)))); have n3_ := Aside0.mk (below_step (by repeat (first | (with_reducible first | exact HB.out | apply below_alloc | apply pw_below_drewN | apply below_drew1) | exact HB.out)) hb); clear HO_6; clear HO_8; clear HB; have HO_6 := n0_; have HO_8 := n1_; have HO362 := n2_; have HB := n3_; clear n0_ n1_ n2_ n3_; (try clear hb); (try clear hb2); (try clear hk); (try clear hi); (try clear ho0)))
                repeat (go_quiet (first | (go_at_call 39; (with_reducible refine (lexer_Lex.calls (t347 ++ t348) t359 t360 _ (by first | exact hG | exact G.below hG (by repeat (first | (with_reducible first | exact HB.out | apply below_alloc | apply pw_below_drewN | apply below_drew1) | exact HB.out))) A31.out).mono ?_); rintro e w33 ⟨v361, rfl, ho0, hb⟩; have n0_ := Aside0.mk (Kd.R_elder' (by (with_reducible repeat (first | apply Kd.R_alloc | apply Kd.R_drewN | apply Kd.R_drew)); exact HO_6.out) (Kd.R_base ho0) hb); have n1_ := Aside0.mk (Kd.R_elder' (by (with_reducible repeat (first | apply Kd.R_alloc | apply Kd.R_drewN | apply Kd.R_drew)); exact HO_8.out) (Kd.R_base ho0) hb); have n2_ := Aside0.mk (Kd.R_lower (Kd.R_new' (Kd.R_new' ho0 (Kd.R_lt (by (with_reducible repeat (first | apply Kd.R_alloc | apply Kd.R_drewN | apply Kd.R_drew)); exact HO_6.out))) (Kd.R_lt (by (with_reducible repeat (first | apply Kd.R_alloc | apply Kd.R_drewN | apply Kd.R_drew)); exact HO_8.out))) (below_size (by repeat (first | (with_reducible first | exact HB.out | apply below_alloc | apply pw_below_drewN | apply below_drew1) | exact HB.out)))); have n3_ := Aside0.mk (below_step (by repeat (first | (with_reducible first | exact HB.out | apply below_alloc | apply pw_below_drewN | apply below_drew1) | exact HB.out)) hb); clear HO_6; clear HO_8; clear HB; have HO_6 := n0_; have HO_8 := n1_; have HO362 := n2_; have HB := n3_; clear n0_ n1_ n2_ n3_; (try clear hb); (try clear hb2); (try clear hk); (try clear hi); (try clear ho0))); go_upto_region 11 with (first | (go_at_call 39; (with_reducible refine (lexer_Lex.calls (t347 ++ t348) t359 t360 _ (by first | exact hG | exact G.below hG (by repeat (first | (with_reducible first | exact HB.out | apply below_alloc | apply pw_below_drewN | apply below_drew1) | exact HB.out))) A31.out).mono ?_); rintro e w33 ⟨v361, rfl, ho0, hb⟩; have n0_ := Aside0.mk (Kd.R_elder' (by (with_reducible repeat (first | apply Kd.R_alloc | apply Kd.R_drewN | apply Kd.R_drew)); exact HO_6.out) (Kd.R_base ho0) hb); have n1_ := Aside0.mk (Kd.R_elder' (by (with_reducible repeat (first | apply Kd.R_alloc | apply Kd.R_drewN | apply Kd.R_drew)); exact HO_8.out) (Kd.R_base ho0) hb); have n2_ := Aside0.mk (Kd.R_lower (Kd.R_new' (Kd.R_new' ho0 (Kd.R_lt (by (with_reducible repeat (first | apply Kd.R_alloc | apply Kd.R_drewN | apply Kd.R_drew)); exact HO_6.out))) (Kd.R_lt (by (with_reducible repeat (first | apply Kd.R_alloc | apply Kd.R_drewN | apply Kd.R_drew)); exact HO_8.out))) (below_size (by repeat (first | (with_reducible first | exact HB.out | apply below_alloc | apply pw_below_drewN | apply below_drew1) | exact HB.out)))); have n3_ := Aside0.mk (below_step (by repeat (first | (with_reducible first | exact HB.out | apply below_alloc | apply pw_below_drewN | apply below_drew1) | exact HB.out)) hb); clear HO_6; clear HO_8; clear HB; have HO_6 := n0_; have HO_8 := n1_; have HO362 := n2_; have HB := n3_; clear n0_ n1_ n2_ n3_; (try clear hb); (try clear hb2); (try clear hk); (try clear hi); (try clear ho0))))
                (try simp only [Act.put, List.setIfInBounds_toArray, List.set_cons_zero, List.set_cons_succ])
                go_cut [80] (fun v80 wc => ∃ (kq : Nat) (x80_31 : Bool), v80 = .bool x80_31 ∧ Aside0 (topiarylaw12_LexerJoins.j2 kq t347 t346 t349 t353 t359 x80_31 = some r) ∧ Aside0 (kq ≤ kj13) ∧ Aside0 (Kd.R k46 46 wc w.heap.size (fun k_ => some k_ ≠ (v355 : Value).ownBlock ∧ some k_ ≠ (v361 : Value).ownBlock) v351 t349) ∧ Aside0 (Kd.R k46 46 wc w.heap.size (fun k_ => some k_ ≠ (v351 : Value).ownBlock ∧ some k_ ≠ (v361 : Value).ownBlock) v355 t353) ∧ Aside0 (Kd.R k46 46 wc w.heap.size (fun k_ => some k_ ≠ (v351 : Value).ownBlock ∧ some k_ ≠ (v355 : Value).ownBlock) v361 t359) ∧ Aside0 (Below w.heap.size w wc))
                case first =>
                  have H := HC32.out
                  clear HC32
                  by_cases c34 : t360 = 0
                  · rw [if_pos c34] at H
                    have c34b0 : (t360 == 0) = true := beq_iff_eq.mpr c34
                    have c34b1 : (t360 != 0) = false := bne_eq_false_iff_eq.mpr c34
                    clear c34
                    (first | rw [c34b0] | (simp only [i64_w, i32_w]; rw [c34b0]) | skip)
                    have H' := Aside0.mk H
                    clear H
                    obtain ⟨Ao35, co35, eo35⟩ := Kd.R_slice HO362.out
                    subst eo35
                    obtain ⟨Ao36, co36, eo36⟩ := Kd.R_slice HO_6.out
                    subst eo36
                    obtain ⟨Ao37, co37, eo37⟩ := Kd.R_slice HO_8.out
                    subst eo37
                    go_wp2
                    repeat (go_quiet (fail); try go_wp2)
                    go_meet
                    case rel => exact ⟨_, (((t359.length : Int) != (wrap64 ((t349.length : Int) + (t353.length : Int))))), (by first | rfl | (simp; done) | (simp [*]; done)), H', ⟨by have := HJ7.out; have := HJ13.out; first | omega | exact Nat.le_refl _⟩, ⟨by (with_reducible repeat (first | apply Kd.R_alloc | apply Kd.R_drewN | apply Kd.R_drew)); exact HO_6.out⟩, ⟨by (with_reducible repeat (first | apply Kd.R_alloc | apply Kd.R_drewN | apply Kd.R_drew)); exact HO_8.out⟩, ⟨by (with_reducible repeat (first | apply Kd.R_alloc | apply Kd.R_drewN | apply Kd.R_drew)); exact Kd.R_mono HO362.out (fun _ hk => ⟨hk.1.2, hk.2⟩)⟩, ⟨by repeat (first | (with_reducible first | exact HB.out | apply below_alloc | apply pw_below_drewN | apply below_drew1) | exact HB.out)⟩⟩
                  · rw [if_neg c34] at H
                    have c34b0 : (t360 == 0) = false := beq_eq_false_iff_ne.mpr c34
                    have c34b1 : (t360 != 0) = true := bne_iff_ne.mpr c34
                    (first | rw [c34b0] | (simp only [i64_w, i32_w]; rw [c34b0]) | skip)
                    have H' := Aside0.mk H
                    clear H
                    go_wp2
                    repeat (go_quiet (fail); try go_wp2)
                    go_meet
                    case rel => exact ⟨_, (true), (by first | rfl | (simp; done) | (simp [*]; done)), H', ⟨by have := HJ7.out; have := HJ13.out; first | omega | exact Nat.le_refl _⟩, ⟨by (with_reducible repeat (first | apply Kd.R_alloc | apply Kd.R_drewN | apply Kd.R_drew)); exact HO_6.out⟩, ⟨by (with_reducible repeat (first | apply Kd.R_alloc | apply Kd.R_drewN | apply Kd.R_drew)); exact HO_8.out⟩, ⟨by (with_reducible repeat (first | apply Kd.R_alloc | apply Kd.R_drewN | apply Kd.R_drew)); exact Kd.R_mono HO362.out (fun _ hk => ⟨hk.1.2, hk.2⟩)⟩, ⟨by repeat (first | (with_reducible first | exact HB.out | apply below_alloc | apply pw_below_drewN | apply below_drew1) | exact HB.out)⟩⟩
                case rest =>
                  clear HC32
                  try clear c1
                  try clear c2
                  try clear p2
                  try clear c3
                  try clear p3
                  try clear q3
                  try clear hx3
                  try clear qi3
                  try clear p6
                  try clear c12
                  try clear c12b0
                  try clear c12b1
                  try clear c13
                  try clear c15
                  try clear c15b0
                  try clear c15b1
                  try clear c16
                  try clear c16b0
                  try clear c16b1
                  try clear c18
                  try clear c18b0
                  try clear c19
                  try clear c19b0
                  try clear c20
                  try clear c20b0
                  try clear c20b1
                  try clear c23
                  try clear c23b0
                  try clear c23b1
                  try clear c29
                  try clear c30
                  try clear c30b0
                  try clear c30b1
                  try clear c30b2
                  try clear c34
                  try clear c34b0
                  try clear c34b1
                  try clear p35
                  try clear q35
                  try clear hx35
                  try clear qi35
                  try clear hx357_0
                  try clear hx357_1
                  try clear hx357_2
                  try clear hx357_3
                  try clear hx357_4
                  try clear hx358_0
                  try clear hx358_1
                  try clear hx358_2
                  try clear hx358_3
                  try clear hx358_4
                  try clear p2
                  try clear p3
                  try clear p357
                  try clear p358
                  try clear p6
                  try clear q3
                  try clear q357
                  try clear q358
                  obtain ⟨kq, x80_31, rfl, HA, HJ31, HO_6, HO_8, HO_10, HB⟩ := hcut
                  cases kq with
                  | zero => exact absurd HA.out (by simp [topiarylaw12_LexerJoins.j2])
                  | succ kj31 =>
                    have H := HA.out
                    clear HA
                    simp only [topiarylaw12_LexerJoins.j2] at H
                    by_cases c38 : x80_31 = true
                    · subst c38
                      have H1 : (some false) = some r := by rw [if_pos rfl] at H; exact H
                      clear H
                      have H := H1
                      clear H1
                      obtain rfl := Option.some.inj H
                      go_wp2
                      repeat (go_quiet (fail); try go_wp2)
                      go_ret
                      exact ⟨by first | rfl | (simp [errW_none, errW_some] <;> rfl) | (simp [*, errW_none, errW_some] <;> rfl), by repeat (first | (with_reducible first | exact HB.out | apply below_alloc | apply pw_below_drewN | apply below_drew1) | exact HB.out)⟩
                    · replace c38 := Bool.eq_false_iff.mpr c38
                      subst c38
                      have H1 : (topiarylaw12_LexerJoins.l0 kj31 t347 t346 t349 t353 t359 0) = some r := by rw [if_neg (show ¬ (false = true) by decide)] at H; exact H
                      clear H
                      have H := H1
                      clear H1
                      have H' := Aside0.mk H
                      clear H
                      go_wp2
                      repeat (go_quiet (fail); try go_wp2)
                      go_loopg [12] kj31 (fun kq v12 w' => ∃ (x12_4 : Int), v12 = .int .i64 x12_4 ∧ Aside0 (topiarylaw12_LexerJoins.l0 kq t347 t346 t349 t353 t359 x12_4 = some r) ∧ Aside0 (kq ≤ kj31) ∧ Aside0 (Kd.R k46 46 w' w.heap.size (fun k_ => some k_ ≠ (v355 : Value).ownBlock ∧ some k_ ≠ (v361 : Value).ownBlock) v351 t349) ∧ Aside0 (Kd.R k46 46 w' w.heap.size (fun k_ => some k_ ≠ (v351 : Value).ownBlock ∧ some k_ ≠ (v361 : Value).ownBlock) v355 t353) ∧ Aside0 (Kd.R k46 46 w' w.heap.size (fun k_ => some k_ ≠ (v351 : Value).ownBlock ∧ some k_ ≠ (v355 : Value).ownBlock) v361 t359) ∧ Aside0 (Below w.heap.size w w'))
                      case atStart => exact ⟨(0), (by first | rfl | (simp; done) | (simp [*]; done)), H', ⟨Nat.le_refl _⟩, ⟨by (with_reducible repeat (first | apply Kd.R_alloc | apply Kd.R_drewN | apply Kd.R_drew)); exact HO_6.out⟩, ⟨by (with_reducible repeat (first | apply Kd.R_alloc | apply Kd.R_drewN | apply Kd.R_drew)); exact HO_8.out⟩, ⟨by (with_reducible repeat (first | apply Kd.R_alloc | apply Kd.R_drewN | apply Kd.R_drew)); exact HO_10.out⟩, ⟨by repeat (first | (with_reducible first | exact HB.out | apply below_alloc | apply pw_below_drewN | apply below_drew1) | exact HB.out)⟩⟩
                      case round =>
                        clear H'
                        try clear c1
                        try clear c2
                        try clear p2
                        try clear c3
                        try clear p3
                        try clear q3
                        try clear hx3
                        try clear qi3
                        try clear p6
                        try clear c12
                        try clear c12b0
                        try clear c12b1
                        try clear c13
                        try clear c15
                        try clear c15b0
                        try clear c15b1
                        try clear c16
                        try clear c16b0
                        try clear c16b1
                        try clear c18
                        try clear c18b0
                        try clear c19
                        try clear c19b0
                        try clear c20
                        try clear c20b0
                        try clear c20b1
                        try clear c23
                        try clear c23b0
                        try clear c23b1
                        try clear c29
                        try clear c30
                        try clear c30b0
                        try clear c30b1
                        try clear c30b2
                        try clear c34
                        try clear c34b0
                        try clear c34b1
                        try clear p35
                        try clear q35
                        try clear hx35
                        try clear qi35
                        try clear c38
                        try clear hx357_0
                        try clear hx357_1
                        try clear hx357_2
                        try clear hx357_3
                        try clear hx357_4
                        try clear hx358_0
                        try clear hx358_1
                        try clear hx358_2
                        try clear hx358_3
                        try clear hx358_4
                        try clear p2
                        try clear p3
                        try clear p35
                        try clear p357
                        try clear p358
                        try clear p6
                        try clear q3
                        try clear q35
                        try clear q357
                        try clear q358
                        obtain ⟨x12_4, rfl, HA, HK4, HO_6, HO_8, HO_10, HB⟩ := hrel
                        cases gk with
                        | zero => exact absurd HA.out (by simp [topiarylaw12_LexerJoins.l0])
                        | succ k4 =>
                          have H := HA.out
                          clear HA
                          simp only [topiarylaw12_LexerJoins.l0] at H
                          by_cases c39 : x12_4 < (t359.length : Int)
                          · rw [if_pos c39] at H
                            have c39b0 : decide (x12_4 < (t359.length : Int)) = true := decide_eq_true c39
                            clear c39
                            by_cases c40 : 0 ≤ x12_4
                            · rw [if_pos c40] at H
                              have c40b0 : decide (0 ≤ x12_4) = true := decide_eq_true c40
                              clear c40
                              by_cases c41 : x12_4 < (t349.length : Int)
                              · rw [if_pos c41] at H
                                have c41b0 : decide (x12_4 < (t349.length : Int)) = true := decide_eq_true c41
                                clear c41
                                by_cases c42 : (!(((rd_T46 t359 x12_4).f0) == ((rd_T46 t349 x12_4).f0)) || (!(((rd_T46 t359 x12_4).f1) == ((rd_T46 t349 x12_4).f1)) || (!(((rd_T46 t359 x12_4).f2) == ((rd_T46 t349 x12_4).f2)) || (!((((rd_T46 t359 x12_4).f3).toList) == (((rd_T46 t349 x12_4).f3).toList)) || (!((((rd_T46 t359 x12_4).f4).toList) == (((rd_T46 t349 x12_4).f4).toList))))))) = true
                                · rw [if_pos c42] at H
                                  have c42b0 : (!(((rd_T46 t359 x12_4).f0) == ((rd_T46 t349 x12_4).f0)) || (!(((rd_T46 t359 x12_4).f1) == ((rd_T46 t349 x12_4).f1)) || (!(((rd_T46 t359 x12_4).f2) == ((rd_T46 t349 x12_4).f2)) || (!((((rd_T46 t359 x12_4).f3).toList) == (((rd_T46 t349 x12_4).f3).toList)) || (!((((rd_T46 t359 x12_4).f4).toList) == (((rd_T46 t349 x12_4).f4).toList))))))) = true := c42
                                  clear c42
                                  obtain rfl := Option.some.inj H
                                  obtain ⟨Ao43, co43, eo43⟩ := Kd.R_slice HO_10.out
                                  subst eo43
                                  have p363 : 0 ≤ (x12_4 : Int) := of_decide_eq_true (by first | (with_reducible assumption) | assumption)
                                  have q363 : x12_4 < (t359.length : Int) := of_decide_eq_true (by first | (with_reducible assumption) | assumption)
                                  obtain ⟨ad363, e363, hx363_0, hx363_1, hx363_2, hx363_3, hx363_4⟩ := at_T46 (Kd.R_reads' HO_10.out).2.2 x12_4 p363 q363
                                  cases e363
                                  replace p363 := eq_true p363
                                  replace q363 := eq_true q363
                                  go_wp2_with (first | ((with_reducible refine gate_dst (N := 13) rfl ?_); (try (refine gate_guard (by rfl) ?_; dsimp only)); refine box_event ?hg (N := 13) ?hd (cs := #[.int .i64 0, .int .i64 0, .int .i64 0, .string (⟨#[]⟩ : ByteArray), .string (⟨#[]⟩ : ByteArray)]) (t := 46) ?hr ?_; (case hd => rfl); (case hg => rfl); (case hr => first | (go_simp; done) | (go_simp; rfl)); intro gb364 hg w44 hbox hb; have n0_ := Aside0.mk (Kd.R_below (Kd.R_elderB (by (with_reducible repeat (first | apply Kd.R_alloc | apply Kd.R_drewN | apply Kd.R_drew)); exact HO_6.out) gb364 (Nat.le_of_eq hg.symm)) hb); have n1_ := Aside0.mk (Kd.R_below (Kd.R_elderB (by (with_reducible repeat (first | apply Kd.R_alloc | apply Kd.R_drewN | apply Kd.R_drew)); exact HO_8.out) gb364 (Nat.le_of_eq hg.symm)) hb); have n2_ := Aside0.mk (Kd.R_below (Kd.R_elderB (by (with_reducible repeat (first | apply Kd.R_alloc | apply Kd.R_drewN | apply Kd.R_drew)); exact HO_10.out) gb364 (Nat.le_of_eq hg.symm)) hb); have n3_ := Aside0.mk (below_step (by repeat (first | (with_reducible first | exact HB.out | apply below_alloc | apply pw_below_drewN | apply below_drew1) | exact HB.out)) hb); have n4_ := Aside0.mk (hbox); have n5_ := Aside0.mk ((by rw [hg]; exact (below_size (by repeat (first | (with_reducible first | exact HB.out | apply below_alloc | apply pw_below_drewN | apply below_drew1) | exact HB.out))) : w.heap.size ≤ gb364)); have n6_ := Aside0.mk ((by rw [hg]; exact (below_size (by repeat (first | (with_reducible first | exact HB.out | apply below_alloc | apply pw_below_drewN | apply below_drew1) | exact HB.out))) : w.heap.size ≤ gb364)); clear HO_6; clear HO_8; clear HO_10; clear HB; have HO_6 := n0_; have HO_8 := n1_; have HO_10 := n2_; have HB := n3_; have BK364 := n4_; have GW364 := n5_; have GE364 := n6_; clear n0_ n1_ n2_ n3_ n4_ n5_ n6_; clear hb hbox hg; have hcz45_0 : w44.cell? ⟨gb364, 0, none⟩ = some (.int .i64 0) := (blk_cell BK364.out 0).trans rfl; have hcz45_1 : w44.cell? ⟨gb364, 1, none⟩ = some (.int .i64 0) := (blk_cell BK364.out 1).trans rfl; have hcz45_2 : w44.cell? ⟨gb364, 2, none⟩ = some (.int .i64 0) := (blk_cell BK364.out 2).trans rfl; have hcz45_3 : w44.cell? ⟨gb364, 3, none⟩ = some (.string (⟨#[]⟩ : ByteArray)) := (blk_cell BK364.out 3).trans rfl; have hcz45_4 : w44.cell? ⟨gb364, 4, none⟩ = some (.string (⟨#[]⟩ : ByteArray)) := (blk_cell BK364.out 4).trans rfl; have hfz45_0 := blk_frozen BK364.out 0; have hfz45_1 := blk_frozen BK364.out 1; have hfz45_2 := blk_frozen BK364.out 2; have hfz45_3 := blk_frozen BK364.out 3; have hfz45_4 := blk_frozen BK364.out 4; obtain ⟨Ao46, co46, eo46⟩ := Kd.R_slice HO_6.out; subst eo46; have p365 : 0 ≤ (x12_4 : Int) := of_decide_eq_true (by first | (with_reducible assumption) | assumption); have q365 : x12_4 < (t349.length : Int) := of_decide_eq_true (by first | (with_reducible assumption) | assumption); obtain ⟨ad365, e365, hx365_0, hx365_1, hx365_2, hx365_3, hx365_4⟩ := at_T46 (Kd.R_reads' HO_6.out).2.2 x12_4 p365 q365; cases e365; have hn365_0 : ad365.block ≠ gb364 := (by first | exact Kd.own_blk (Kd.R_ne HO_6.out BK364.out (by decide)) | exact Kd.own_blk (fun e_ => (HO_6.out.1 _ e_.symm).2 rfl) | exact Kd.own_blk (fun e_ => (HO_6.out.1 _ e_.symm).1.2 rfl)); have hn365_1 : ad365.block ≠ gb364 := (by first | exact Kd.own_blk (Kd.R_ne HO_6.out BK364.out (by decide)) | exact Kd.own_blk (fun e_ => (HO_6.out.1 _ e_.symm).2 rfl) | exact Kd.own_blk (fun e_ => (HO_6.out.1 _ e_.symm).1.2 rfl)); have hn365_2 : ad365.block ≠ gb364 := (by first | exact Kd.own_blk (Kd.R_ne HO_6.out BK364.out (by decide)) | exact Kd.own_blk (fun e_ => (HO_6.out.1 _ e_.symm).2 rfl) | exact Kd.own_blk (fun e_ => (HO_6.out.1 _ e_.symm).1.2 rfl)); have hn365_3 : ad365.block ≠ gb364 := (by first | exact Kd.own_blk (Kd.R_ne HO_6.out BK364.out (by decide)) | exact Kd.own_blk (fun e_ => (HO_6.out.1 _ e_.symm).2 rfl) | exact Kd.own_blk (fun e_ => (HO_6.out.1 _ e_.symm).1.2 rfl)); have hn365_4 : ad365.block ≠ gb364 := (by first | exact Kd.own_blk (Kd.R_ne HO_6.out BK364.out (by decide)) | exact Kd.own_blk (fun e_ => (HO_6.out.1 _ e_.symm).2 rfl) | exact Kd.own_blk (fun e_ => (HO_6.out.1 _ e_.symm).1.2 rfl)); have hw365_0 := fun (n_ : Nat) => (show (w44.drewN n_).cell? _ = some _ from hx365_0); replace hx365_0 := (cell_far (p := ⟨gb364, 0, none⟩) (by first | (rw [add_block]; exact hn365_0) | (show (Addr.add _ _).block ≠ _; rw [add_block]; exact hn365_0) | exact hn365_0) (.int .i64 ((rd_T46 t359 x12_4).f0))).trans hx365_0; replace hw365_0 := fun (n_ : Nat) => (cell_far (p := ⟨gb364, 0, none⟩) (by first | (rw [add_block]; exact hn365_0) | (show (Addr.add _ _).block ≠ _; rw [add_block]; exact hn365_0) | exact hn365_0) (.int .i64 ((rd_T46 t359 x12_4).f0))).trans (hw365_0 n_); have hw365_1 := fun (n_ : Nat) => (show (w44.drewN n_).cell? _ = some _ from hx365_1); replace hx365_1 := (cell_far (p := ⟨gb364, 0, none⟩) (by first | (rw [add_block]; exact hn365_0) | (show (Addr.add _ _).block ≠ _; rw [add_block]; exact hn365_0) | exact hn365_0) (.int .i64 ((rd_T46 t359 x12_4).f0))).trans hx365_1; replace hw365_1 := fun (n_ : Nat) => (cell_far (p := ⟨gb364, 0, none⟩) (by first | (rw [add_block]; exact hn365_0) | (show (Addr.add _ _).block ≠ _; rw [add_block]; exact hn365_0) | exact hn365_0) (.int .i64 ((rd_T46 t359 x12_4).f0))).trans (hw365_1 n_); have hw365_2 := fun (n_ : Nat) => (show (w44.drewN n_).cell? _ = some _ from hx365_2); replace hx365_2 := (cell_far (p := ⟨gb364, 0, none⟩) (by first | (rw [add_block]; exact hn365_0) | (show (Addr.add _ _).block ≠ _; rw [add_block]; exact hn365_0) | exact hn365_0) (.int .i64 ((rd_T46 t359 x12_4).f0))).trans hx365_2; replace hw365_2 := fun (n_ : Nat) => (cell_far (p := ⟨gb364, 0, none⟩) (by first | (rw [add_block]; exact hn365_0) | (show (Addr.add _ _).block ≠ _; rw [add_block]; exact hn365_0) | exact hn365_0) (.int .i64 ((rd_T46 t359 x12_4).f0))).trans (hw365_2 n_); have hw365_3 := fun (n_ : Nat) => (show (w44.drewN n_).cell? _ = some _ from hx365_3); replace hx365_3 := (cell_far (p := ⟨gb364, 0, none⟩) (by first | (rw [add_block]; exact hn365_0) | (show (Addr.add _ _).block ≠ _; rw [add_block]; exact hn365_0) | exact hn365_0) (.int .i64 ((rd_T46 t359 x12_4).f0))).trans hx365_3; replace hw365_3 := fun (n_ : Nat) => (cell_far (p := ⟨gb364, 0, none⟩) (by first | (rw [add_block]; exact hn365_0) | (show (Addr.add _ _).block ≠ _; rw [add_block]; exact hn365_0) | exact hn365_0) (.int .i64 ((rd_T46 t359 x12_4).f0))).trans (hw365_3 n_); have hw365_4 := fun (n_ : Nat) => (show (w44.drewN n_).cell? _ = some _ from hx365_4); replace hx365_4 := (cell_far (p := ⟨gb364, 0, none⟩) (by first | (rw [add_block]; exact hn365_0) | (show (Addr.add _ _).block ≠ _; rw [add_block]; exact hn365_0) | exact hn365_0) (.int .i64 ((rd_T46 t359 x12_4).f0))).trans hx365_4; replace hw365_4 := fun (n_ : Nat) => (cell_far (p := ⟨gb364, 0, none⟩) (by first | (rw [add_block]; exact hn365_0) | (show (Addr.add _ _).block ≠ _; rw [add_block]; exact hn365_0) | exact hn365_0) (.int .i64 ((rd_T46 t359 x12_4).f0))).trans (hw365_4 n_); replace hx365_0 := (cell_far (p := ⟨gb364, 1, none⟩) (by first | (rw [add_block]; exact hn365_1) | (show (Addr.add _ _).block ≠ _; rw [add_block]; exact hn365_1) | exact hn365_1) (.int .i64 ((rd_T46 t359 x12_4).f1))).trans hx365_0; replace hw365_0 := fun (n_ : Nat) => (cell_far (p := ⟨gb364, 1, none⟩) (by first | (rw [add_block]; exact hn365_1) | (show (Addr.add _ _).block ≠ _; rw [add_block]; exact hn365_1) | exact hn365_1) (.int .i64 ((rd_T46 t359 x12_4).f1))).trans (hw365_0 n_); replace hx365_1 := (cell_far (p := ⟨gb364, 1, none⟩) (by first | (rw [add_block]; exact hn365_1) | (show (Addr.add _ _).block ≠ _; rw [add_block]; exact hn365_1) | exact hn365_1) (.int .i64 ((rd_T46 t359 x12_4).f1))).trans hx365_1; replace hw365_1 := fun (n_ : Nat) => (cell_far (p := ⟨gb364, 1, none⟩) (by first | (rw [add_block]; exact hn365_1) | (show (Addr.add _ _).block ≠ _; rw [add_block]; exact hn365_1) | exact hn365_1) (.int .i64 ((rd_T46 t359 x12_4).f1))).trans (hw365_1 n_); replace hx365_2 := (cell_far (p := ⟨gb364, 1, none⟩) (by first | (rw [add_block]; exact hn365_1) | (show (Addr.add _ _).block ≠ _; rw [add_block]; exact hn365_1) | exact hn365_1) (.int .i64 ((rd_T46 t359 x12_4).f1))).trans hx365_2; replace hw365_2 := fun (n_ : Nat) => (cell_far (p := ⟨gb364, 1, none⟩) (by first | (rw [add_block]; exact hn365_1) | (show (Addr.add _ _).block ≠ _; rw [add_block]; exact hn365_1) | exact hn365_1) (.int .i64 ((rd_T46 t359 x12_4).f1))).trans (hw365_2 n_); replace hx365_3 := (cell_far (p := ⟨gb364, 1, none⟩) (by first | (rw [add_block]; exact hn365_1) | (show (Addr.add _ _).block ≠ _; rw [add_block]; exact hn365_1) | exact hn365_1) (.int .i64 ((rd_T46 t359 x12_4).f1))).trans hx365_3; replace hw365_3 := fun (n_ : Nat) => (cell_far (p := ⟨gb364, 1, none⟩) (by first | (rw [add_block]; exact hn365_1) | (show (Addr.add _ _).block ≠ _; rw [add_block]; exact hn365_1) | exact hn365_1) (.int .i64 ((rd_T46 t359 x12_4).f1))).trans (hw365_3 n_); replace hx365_4 := (cell_far (p := ⟨gb364, 1, none⟩) (by first | (rw [add_block]; exact hn365_1) | (show (Addr.add _ _).block ≠ _; rw [add_block]; exact hn365_1) | exact hn365_1) (.int .i64 ((rd_T46 t359 x12_4).f1))).trans hx365_4; replace hw365_4 := fun (n_ : Nat) => (cell_far (p := ⟨gb364, 1, none⟩) (by first | (rw [add_block]; exact hn365_1) | (show (Addr.add _ _).block ≠ _; rw [add_block]; exact hn365_1) | exact hn365_1) (.int .i64 ((rd_T46 t359 x12_4).f1))).trans (hw365_4 n_); replace hx365_0 := (cell_far (p := ⟨gb364, 2, none⟩) (by first | (rw [add_block]; exact hn365_2) | (show (Addr.add _ _).block ≠ _; rw [add_block]; exact hn365_2) | exact hn365_2) (.int .i64 ((rd_T46 t359 x12_4).f2))).trans hx365_0; replace hw365_0 := fun (n_ : Nat) => (cell_far (p := ⟨gb364, 2, none⟩) (by first | (rw [add_block]; exact hn365_2) | (show (Addr.add _ _).block ≠ _; rw [add_block]; exact hn365_2) | exact hn365_2) (.int .i64 ((rd_T46 t359 x12_4).f2))).trans (hw365_0 n_); replace hx365_1 := (cell_far (p := ⟨gb364, 2, none⟩) (by first | (rw [add_block]; exact hn365_2) | (show (Addr.add _ _).block ≠ _; rw [add_block]; exact hn365_2) | exact hn365_2) (.int .i64 ((rd_T46 t359 x12_4).f2))).trans hx365_1; replace hw365_1 := fun (n_ : Nat) => (cell_far (p := ⟨gb364, 2, none⟩) (by first | (rw [add_block]; exact hn365_2) | (show (Addr.add _ _).block ≠ _; rw [add_block]; exact hn365_2) | exact hn365_2) (.int .i64 ((rd_T46 t359 x12_4).f2))).trans (hw365_1 n_); replace hx365_2 := (cell_far (p := ⟨gb364, 2, none⟩) (by first | (rw [add_block]; exact hn365_2) | (show (Addr.add _ _).block ≠ _; rw [add_block]; exact hn365_2) | exact hn365_2) (.int .i64 ((rd_T46 t359 x12_4).f2))).trans hx365_2; replace hw365_2 := fun (n_ : Nat) => (cell_far (p := ⟨gb364, 2, none⟩) (by first | (rw [add_block]; exact hn365_2) | (show (Addr.add _ _).block ≠ _; rw [add_block]; exact hn365_2) | exact hn365_2) (.int .i64 ((rd_T46 t359 x12_4).f2))).trans (hw365_2 n_); replace hx365_3 := (cell_far (p := ⟨gb364, 2, none⟩) (by first | (rw [add_block]; exact hn365_2) | (show (Addr.add _ _).block ≠ _; rw [add_block]; exact hn365_2) | exact hn365_2) (.int .i64 ((rd_T46 t359 x12_4).f2))).trans hx365_3; replace hw365_3 := fun (n_ : Nat) => (cell_far (p := ⟨gb364, 2, none⟩) (by first | (rw [add_block]; exact hn365_2) | (show (Addr.add _ _).block ≠ _; rw [add_block]; exact hn365_2) | exact hn365_2) (.int .i64 ((rd_T46 t359 x12_4).f2))).trans (hw365_3 n_); replace hx365_4 := (cell_far (p := ⟨gb364, 2, none⟩) (by first | (rw [add_block]; exact hn365_2) | (show (Addr.add _ _).block ≠ _; rw [add_block]; exact hn365_2) | exact hn365_2) (.int .i64 ((rd_T46 t359 x12_4).f2))).trans hx365_4; replace hw365_4 := fun (n_ : Nat) => (cell_far (p := ⟨gb364, 2, none⟩) (by first | (rw [add_block]; exact hn365_2) | (show (Addr.add _ _).block ≠ _; rw [add_block]; exact hn365_2) | exact hn365_2) (.int .i64 ((rd_T46 t359 x12_4).f2))).trans (hw365_4 n_); replace hx365_0 := (cell_far (p := ⟨gb364, 3, none⟩) (by first | (rw [add_block]; exact hn365_3) | (show (Addr.add _ _).block ≠ _; rw [add_block]; exact hn365_3) | exact hn365_3) (.string ((rd_T46 t359 x12_4).f3))).trans hx365_0; replace hw365_0 := fun (n_ : Nat) => (cell_far (p := ⟨gb364, 3, none⟩) (by first | (rw [add_block]; exact hn365_3) | (show (Addr.add _ _).block ≠ _; rw [add_block]; exact hn365_3) | exact hn365_3) (.string ((rd_T46 t359 x12_4).f3))).trans (hw365_0 n_); replace hx365_1 := (cell_far (p := ⟨gb364, 3, none⟩) (by first | (rw [add_block]; exact hn365_3) | (show (Addr.add _ _).block ≠ _; rw [add_block]; exact hn365_3) | exact hn365_3) (.string ((rd_T46 t359 x12_4).f3))).trans hx365_1; replace hw365_1 := fun (n_ : Nat) => (cell_far (p := ⟨gb364, 3, none⟩) (by first | (rw [add_block]; exact hn365_3) | (show (Addr.add _ _).block ≠ _; rw [add_block]; exact hn365_3) | exact hn365_3) (.string ((rd_T46 t359 x12_4).f3))).trans (hw365_1 n_); replace hx365_2 := (cell_far (p := ⟨gb364, 3, none⟩) (by first | (rw [add_block]; exact hn365_3) | (show (Addr.add _ _).block ≠ _; rw [add_block]; exact hn365_3) | exact hn365_3) (.string ((rd_T46 t359 x12_4).f3))).trans hx365_2; replace hw365_2 := fun (n_ : Nat) => (cell_far (p := ⟨gb364, 3, none⟩) (by first | (rw [add_block]; exact hn365_3) | (show (Addr.add _ _).block ≠ _; rw [add_block]; exact hn365_3) | exact hn365_3) (.string ((rd_T46 t359 x12_4).f3))).trans (hw365_2 n_); replace hx365_3 := (cell_far (p := ⟨gb364, 3, none⟩) (by first | (rw [add_block]; exact hn365_3) | (show (Addr.add _ _).block ≠ _; rw [add_block]; exact hn365_3) | exact hn365_3) (.string ((rd_T46 t359 x12_4).f3))).trans hx365_3; replace hw365_3 := fun (n_ : Nat) => (cell_far (p := ⟨gb364, 3, none⟩) (by first | (rw [add_block]; exact hn365_3) | (show (Addr.add _ _).block ≠ _; rw [add_block]; exact hn365_3) | exact hn365_3) (.string ((rd_T46 t359 x12_4).f3))).trans (hw365_3 n_); replace hx365_4 := (cell_far (p := ⟨gb364, 3, none⟩) (by first | (rw [add_block]; exact hn365_3) | (show (Addr.add _ _).block ≠ _; rw [add_block]; exact hn365_3) | exact hn365_3) (.string ((rd_T46 t359 x12_4).f3))).trans hx365_4; replace hw365_4 := fun (n_ : Nat) => (cell_far (p := ⟨gb364, 3, none⟩) (by first | (rw [add_block]; exact hn365_3) | (show (Addr.add _ _).block ≠ _; rw [add_block]; exact hn365_3) | exact hn365_3) (.string ((rd_T46 t359 x12_4).f3))).trans (hw365_4 n_); replace hx365_0 := (cell_far (p := ⟨gb364, 4, none⟩) (by first | (rw [add_block]; exact hn365_4) | (show (Addr.add _ _).block ≠ _; rw [add_block]; exact hn365_4) | exact hn365_4) (.string ((rd_T46 t359 x12_4).f4))).trans hx365_0; replace hw365_0 := fun (n_ : Nat) => (cell_far (p := ⟨gb364, 4, none⟩) (by first | (rw [add_block]; exact hn365_4) | (show (Addr.add _ _).block ≠ _; rw [add_block]; exact hn365_4) | exact hn365_4) (.string ((rd_T46 t359 x12_4).f4))).trans (hw365_0 n_); replace hx365_1 := (cell_far (p := ⟨gb364, 4, none⟩) (by first | (rw [add_block]; exact hn365_4) | (show (Addr.add _ _).block ≠ _; rw [add_block]; exact hn365_4) | exact hn365_4) (.string ((rd_T46 t359 x12_4).f4))).trans hx365_1; replace hw365_1 := fun (n_ : Nat) => (cell_far (p := ⟨gb364, 4, none⟩) (by first | (rw [add_block]; exact hn365_4) | (show (Addr.add _ _).block ≠ _; rw [add_block]; exact hn365_4) | exact hn365_4) (.string ((rd_T46 t359 x12_4).f4))).trans (hw365_1 n_); replace hx365_2 := (cell_far (p := ⟨gb364, 4, none⟩) (by first | (rw [add_block]; exact hn365_4) | (show (Addr.add _ _).block ≠ _; rw [add_block]; exact hn365_4) | exact hn365_4) (.string ((rd_T46 t359 x12_4).f4))).trans hx365_2; replace hw365_2 := fun (n_ : Nat) => (cell_far (p := ⟨gb364, 4, none⟩) (by first | (rw [add_block]; exact hn365_4) | (show (Addr.add _ _).block ≠ _; rw [add_block]; exact hn365_4) | exact hn365_4) (.string ((rd_T46 t359 x12_4).f4))).trans (hw365_2 n_); replace hx365_3 := (cell_far (p := ⟨gb364, 4, none⟩) (by first | (rw [add_block]; exact hn365_4) | (show (Addr.add _ _).block ≠ _; rw [add_block]; exact hn365_4) | exact hn365_4) (.string ((rd_T46 t359 x12_4).f4))).trans hx365_3; replace hw365_3 := fun (n_ : Nat) => (cell_far (p := ⟨gb364, 4, none⟩) (by first | (rw [add_block]; exact hn365_4) | (show (Addr.add _ _).block ≠ _; rw [add_block]; exact hn365_4) | exact hn365_4) (.string ((rd_T46 t359 x12_4).f4))).trans (hw365_3 n_); replace hx365_4 := (cell_far (p := ⟨gb364, 4, none⟩) (by first | (rw [add_block]; exact hn365_4) | (show (Addr.add _ _).block ≠ _; rw [add_block]; exact hn365_4) | exact hn365_4) (.string ((rd_T46 t359 x12_4).f4))).trans hx365_4; replace hw365_4 := fun (n_ : Nat) => (cell_far (p := ⟨gb364, 4, none⟩) (by first | (rw [add_block]; exact hn365_4) | (show (Addr.add _ _).block ≠ _; rw [add_block]; exact hn365_4) | exact hn365_4) (.string ((rd_T46 t359 x12_4).f4))).trans (hw365_4 n_); have hy365_0 := hw365_0; have hy365_1 := hw365_1; have hy365_2 := hw365_2; have hy365_3 := hw365_3; have hy365_4 := hw365_4; clear hn365_0; clear hn365_1; clear hn365_2; clear hn365_3; clear hn365_4; replace p365 := eq_true p365; replace q365 := eq_true q365))
                                  repeat (go_quiet (fail); try go_wp2)
                                  go_ret
                                  exact ⟨by first | rfl | (simp [errW_none, errW_some] <;> rfl) | (simp [*, errW_none, errW_some] <;> rfl), by repeat (first | (with_reducible first | exact HB.out | apply below_alloc | apply pw_below_drewN | apply below_drew1 | refine below_set ?_ GE364.out) | exact HB.out)⟩
                                · rw [if_neg c42] at H
                                  have c42b0 : (!(((rd_T46 t359 x12_4).f0) == ((rd_T46 t349 x12_4).f0)) || (!(((rd_T46 t359 x12_4).f1) == ((rd_T46 t349 x12_4).f1)) || (!(((rd_T46 t359 x12_4).f2) == ((rd_T46 t349 x12_4).f2)) || (!((((rd_T46 t359 x12_4).f3).toList) == (((rd_T46 t349 x12_4).f3).toList)) || (!((((rd_T46 t359 x12_4).f4).toList) == (((rd_T46 t349 x12_4).f4).toList))))))) = false := by simpa using c42
                                  clear c42
                                  have H' := Aside0.mk H
                                  clear H
                                  obtain ⟨Ao47, co47, eo47⟩ := Kd.R_slice HO_10.out
                                  subst eo47
                                  have p363 : 0 ≤ (x12_4 : Int) := of_decide_eq_true (by first | (with_reducible assumption) | assumption)
                                  have q363 : x12_4 < (t359.length : Int) := of_decide_eq_true (by first | (with_reducible assumption) | assumption)
                                  obtain ⟨ad363, e363, hx363_0, hx363_1, hx363_2, hx363_3, hx363_4⟩ := at_T46 (Kd.R_reads' HO_10.out).2.2 x12_4 p363 q363
                                  cases e363
                                  replace p363 := eq_true p363
                                  replace q363 := eq_true q363
                                  go_wp2_with (first | ((with_reducible refine gate_dst (N := 13) rfl ?_); (try (refine gate_guard (by rfl) ?_; dsimp only)); refine box_event ?hg (N := 13) ?hd (cs := #[.int .i64 0, .int .i64 0, .int .i64 0, .string (⟨#[]⟩ : ByteArray), .string (⟨#[]⟩ : ByteArray)]) (t := 46) ?hr ?_; (case hd => rfl); (case hg => rfl); (case hr => first | (go_simp; done) | (go_simp; rfl)); intro gb364 hg w48 hbox hb; have n0_ := Aside0.mk (Kd.R_below (Kd.R_elderB (by (with_reducible repeat (first | apply Kd.R_alloc | apply Kd.R_drewN | apply Kd.R_drew)); exact HO_6.out) gb364 (Nat.le_of_eq hg.symm)) hb); have n1_ := Aside0.mk (Kd.R_below (Kd.R_elderB (by (with_reducible repeat (first | apply Kd.R_alloc | apply Kd.R_drewN | apply Kd.R_drew)); exact HO_8.out) gb364 (Nat.le_of_eq hg.symm)) hb); have n2_ := Aside0.mk (Kd.R_below (Kd.R_elderB (by (with_reducible repeat (first | apply Kd.R_alloc | apply Kd.R_drewN | apply Kd.R_drew)); exact HO_10.out) gb364 (Nat.le_of_eq hg.symm)) hb); have n3_ := Aside0.mk (below_step (by repeat (first | (with_reducible first | exact HB.out | apply below_alloc | apply pw_below_drewN | apply below_drew1) | exact HB.out)) hb); have n4_ := Aside0.mk (hbox); have n5_ := Aside0.mk ((by rw [hg]; exact (below_size (by repeat (first | (with_reducible first | exact HB.out | apply below_alloc | apply pw_below_drewN | apply below_drew1) | exact HB.out))) : w.heap.size ≤ gb364)); have n6_ := Aside0.mk ((by rw [hg]; exact (below_size (by repeat (first | (with_reducible first | exact HB.out | apply below_alloc | apply pw_below_drewN | apply below_drew1) | exact HB.out))) : w.heap.size ≤ gb364)); clear HO_6; clear HO_8; clear HO_10; clear HB; have HO_6 := n0_; have HO_8 := n1_; have HO_10 := n2_; have HB := n3_; have BK364 := n4_; have GW364 := n5_; have GE364 := n6_; clear n0_ n1_ n2_ n3_ n4_ n5_ n6_; clear hb hbox hg; have hcz49_0 : w48.cell? ⟨gb364, 0, none⟩ = some (.int .i64 0) := (blk_cell BK364.out 0).trans rfl; have hcz49_1 : w48.cell? ⟨gb364, 1, none⟩ = some (.int .i64 0) := (blk_cell BK364.out 1).trans rfl; have hcz49_2 : w48.cell? ⟨gb364, 2, none⟩ = some (.int .i64 0) := (blk_cell BK364.out 2).trans rfl; have hcz49_3 : w48.cell? ⟨gb364, 3, none⟩ = some (.string (⟨#[]⟩ : ByteArray)) := (blk_cell BK364.out 3).trans rfl; have hcz49_4 : w48.cell? ⟨gb364, 4, none⟩ = some (.string (⟨#[]⟩ : ByteArray)) := (blk_cell BK364.out 4).trans rfl; have hfz49_0 := blk_frozen BK364.out 0; have hfz49_1 := blk_frozen BK364.out 1; have hfz49_2 := blk_frozen BK364.out 2; have hfz49_3 := blk_frozen BK364.out 3; have hfz49_4 := blk_frozen BK364.out 4; obtain ⟨Ao50, co50, eo50⟩ := Kd.R_slice HO_6.out; subst eo50; have p365 : 0 ≤ (x12_4 : Int) := of_decide_eq_true (by first | (with_reducible assumption) | assumption); have q365 : x12_4 < (t349.length : Int) := of_decide_eq_true (by first | (with_reducible assumption) | assumption); obtain ⟨ad365, e365, hx365_0, hx365_1, hx365_2, hx365_3, hx365_4⟩ := at_T46 (Kd.R_reads' HO_6.out).2.2 x12_4 p365 q365; cases e365; have hn365_0 : ad365.block ≠ gb364 := (by first | exact Kd.own_blk (Kd.R_ne HO_6.out BK364.out (by decide)) | exact Kd.own_blk (fun e_ => (HO_6.out.1 _ e_.symm).2 rfl) | exact Kd.own_blk (fun e_ => (HO_6.out.1 _ e_.symm).1.2 rfl)); have hn365_1 : ad365.block ≠ gb364 := (by first | exact Kd.own_blk (Kd.R_ne HO_6.out BK364.out (by decide)) | exact Kd.own_blk (fun e_ => (HO_6.out.1 _ e_.symm).2 rfl) | exact Kd.own_blk (fun e_ => (HO_6.out.1 _ e_.symm).1.2 rfl)); have hn365_2 : ad365.block ≠ gb364 := (by first | exact Kd.own_blk (Kd.R_ne HO_6.out BK364.out (by decide)) | exact Kd.own_blk (fun e_ => (HO_6.out.1 _ e_.symm).2 rfl) | exact Kd.own_blk (fun e_ => (HO_6.out.1 _ e_.symm).1.2 rfl)); have hn365_3 : ad365.block ≠ gb364 := (by first | exact Kd.own_blk (Kd.R_ne HO_6.out BK364.out (by decide)) | exact Kd.own_blk (fun e_ => (HO_6.out.1 _ e_.symm).2 rfl) | exact Kd.own_blk (fun e_ => (HO_6.out.1 _ e_.symm).1.2 rfl)); have hn365_4 : ad365.block ≠ gb364 := (by first | exact Kd.own_blk (Kd.R_ne HO_6.out BK364.out (by decide)) | exact Kd.own_blk (fun e_ => (HO_6.out.1 _ e_.symm).2 rfl) | exact Kd.own_blk (fun e_ => (HO_6.out.1 _ e_.symm).1.2 rfl)); have hw365_0 := fun (n_ : Nat) => (show (w48.drewN n_).cell? _ = some _ from hx365_0); replace hx365_0 := (cell_far (p := ⟨gb364, 0, none⟩) (by first | (rw [add_block]; exact hn365_0) | (show (Addr.add _ _).block ≠ _; rw [add_block]; exact hn365_0) | exact hn365_0) (.int .i64 ((rd_T46 t359 x12_4).f0))).trans hx365_0; replace hw365_0 := fun (n_ : Nat) => (cell_far (p := ⟨gb364, 0, none⟩) (by first | (rw [add_block]; exact hn365_0) | (show (Addr.add _ _).block ≠ _; rw [add_block]; exact hn365_0) | exact hn365_0) (.int .i64 ((rd_T46 t359 x12_4).f0))).trans (hw365_0 n_); have hw365_1 := fun (n_ : Nat) => (show (w48.drewN n_).cell? _ = some _ from hx365_1); replace hx365_1 := (cell_far (p := ⟨gb364, 0, none⟩) (by first | (rw [add_block]; exact hn365_0) | (show (Addr.add _ _).block ≠ _; rw [add_block]; exact hn365_0) | exact hn365_0) (.int .i64 ((rd_T46 t359 x12_4).f0))).trans hx365_1; replace hw365_1 := fun (n_ : Nat) => (cell_far (p := ⟨gb364, 0, none⟩) (by first | (rw [add_block]; exact hn365_0) | (show (Addr.add _ _).block ≠ _; rw [add_block]; exact hn365_0) | exact hn365_0) (.int .i64 ((rd_T46 t359 x12_4).f0))).trans (hw365_1 n_); have hw365_2 := fun (n_ : Nat) => (show (w48.drewN n_).cell? _ = some _ from hx365_2); replace hx365_2 := (cell_far (p := ⟨gb364, 0, none⟩) (by first | (rw [add_block]; exact hn365_0) | (show (Addr.add _ _).block ≠ _; rw [add_block]; exact hn365_0) | exact hn365_0) (.int .i64 ((rd_T46 t359 x12_4).f0))).trans hx365_2; replace hw365_2 := fun (n_ : Nat) => (cell_far (p := ⟨gb364, 0, none⟩) (by first | (rw [add_block]; exact hn365_0) | (show (Addr.add _ _).block ≠ _; rw [add_block]; exact hn365_0) | exact hn365_0) (.int .i64 ((rd_T46 t359 x12_4).f0))).trans (hw365_2 n_); have hw365_3 := fun (n_ : Nat) => (show (w48.drewN n_).cell? _ = some _ from hx365_3); replace hx365_3 := (cell_far (p := ⟨gb364, 0, none⟩) (by first | (rw [add_block]; exact hn365_0) | (show (Addr.add _ _).block ≠ _; rw [add_block]; exact hn365_0) | exact hn365_0) (.int .i64 ((rd_T46 t359 x12_4).f0))).trans hx365_3; replace hw365_3 := fun (n_ : Nat) => (cell_far (p := ⟨gb364, 0, none⟩) (by first | (rw [add_block]; exact hn365_0) | (show (Addr.add _ _).block ≠ _; rw [add_block]; exact hn365_0) | exact hn365_0) (.int .i64 ((rd_T46 t359 x12_4).f0))).trans (hw365_3 n_); have hw365_4 := fun (n_ : Nat) => (show (w48.drewN n_).cell? _ = some _ from hx365_4); replace hx365_4 := (cell_far (p := ⟨gb364, 0, none⟩) (by first | (rw [add_block]; exact hn365_0) | (show (Addr.add _ _).block ≠ _; rw [add_block]; exact hn365_0) | exact hn365_0) (.int .i64 ((rd_T46 t359 x12_4).f0))).trans hx365_4; replace hw365_4 := fun (n_ : Nat) => (cell_far (p := ⟨gb364, 0, none⟩) (by first | (rw [add_block]; exact hn365_0) | (show (Addr.add _ _).block ≠ _; rw [add_block]; exact hn365_0) | exact hn365_0) (.int .i64 ((rd_T46 t359 x12_4).f0))).trans (hw365_4 n_); replace hx365_0 := (cell_far (p := ⟨gb364, 1, none⟩) (by first | (rw [add_block]; exact hn365_1) | (show (Addr.add _ _).block ≠ _; rw [add_block]; exact hn365_1) | exact hn365_1) (.int .i64 ((rd_T46 t359 x12_4).f1))).trans hx365_0; replace hw365_0 := fun (n_ : Nat) => (cell_far (p := ⟨gb364, 1, none⟩) (by first | (rw [add_block]; exact hn365_1) | (show (Addr.add _ _).block ≠ _; rw [add_block]; exact hn365_1) | exact hn365_1) (.int .i64 ((rd_T46 t359 x12_4).f1))).trans (hw365_0 n_); replace hx365_1 := (cell_far (p := ⟨gb364, 1, none⟩) (by first | (rw [add_block]; exact hn365_1) | (show (Addr.add _ _).block ≠ _; rw [add_block]; exact hn365_1) | exact hn365_1) (.int .i64 ((rd_T46 t359 x12_4).f1))).trans hx365_1; replace hw365_1 := fun (n_ : Nat) => (cell_far (p := ⟨gb364, 1, none⟩) (by first | (rw [add_block]; exact hn365_1) | (show (Addr.add _ _).block ≠ _; rw [add_block]; exact hn365_1) | exact hn365_1) (.int .i64 ((rd_T46 t359 x12_4).f1))).trans (hw365_1 n_); replace hx365_2 := (cell_far (p := ⟨gb364, 1, none⟩) (by first | (rw [add_block]; exact hn365_1) | (show (Addr.add _ _).block ≠ _; rw [add_block]; exact hn365_1) | exact hn365_1) (.int .i64 ((rd_T46 t359 x12_4).f1))).trans hx365_2; replace hw365_2 := fun (n_ : Nat) => (cell_far (p := ⟨gb364, 1, none⟩) (by first | (rw [add_block]; exact hn365_1) | (show (Addr.add _ _).block ≠ _; rw [add_block]; exact hn365_1) | exact hn365_1) (.int .i64 ((rd_T46 t359 x12_4).f1))).trans (hw365_2 n_); replace hx365_3 := (cell_far (p := ⟨gb364, 1, none⟩) (by first | (rw [add_block]; exact hn365_1) | (show (Addr.add _ _).block ≠ _; rw [add_block]; exact hn365_1) | exact hn365_1) (.int .i64 ((rd_T46 t359 x12_4).f1))).trans hx365_3; replace hw365_3 := fun (n_ : Nat) => (cell_far (p := ⟨gb364, 1, none⟩) (by first | (rw [add_block]; exact hn365_1) | (show (Addr.add _ _).block ≠ _; rw [add_block]; exact hn365_1) | exact hn365_1) (.int .i64 ((rd_T46 t359 x12_4).f1))).trans (hw365_3 n_); replace hx365_4 := (cell_far (p := ⟨gb364, 1, none⟩) (by first | (rw [add_block]; exact hn365_1) | (show (Addr.add _ _).block ≠ _; rw [add_block]; exact hn365_1) | exact hn365_1) (.int .i64 ((rd_T46 t359 x12_4).f1))).trans hx365_4; replace hw365_4 := fun (n_ : Nat) => (cell_far (p := ⟨gb364, 1, none⟩) (by first | (rw [add_block]; exact hn365_1) | (show (Addr.add _ _).block ≠ _; rw [add_block]; exact hn365_1) | exact hn365_1) (.int .i64 ((rd_T46 t359 x12_4).f1))).trans (hw365_4 n_); replace hx365_0 := (cell_far (p := ⟨gb364, 2, none⟩) (by first | (rw [add_block]; exact hn365_2) | (show (Addr.add _ _).block ≠ _; rw [add_block]; exact hn365_2) | exact hn365_2) (.int .i64 ((rd_T46 t359 x12_4).f2))).trans hx365_0; replace hw365_0 := fun (n_ : Nat) => (cell_far (p := ⟨gb364, 2, none⟩) (by first | (rw [add_block]; exact hn365_2) | (show (Addr.add _ _).block ≠ _; rw [add_block]; exact hn365_2) | exact hn365_2) (.int .i64 ((rd_T46 t359 x12_4).f2))).trans (hw365_0 n_); replace hx365_1 := (cell_far (p := ⟨gb364, 2, none⟩) (by first | (rw [add_block]; exact hn365_2) | (show (Addr.add _ _).block ≠ _; rw [add_block]; exact hn365_2) | exact hn365_2) (.int .i64 ((rd_T46 t359 x12_4).f2))).trans hx365_1; replace hw365_1 := fun (n_ : Nat) => (cell_far (p := ⟨gb364, 2, none⟩) (by first | (rw [add_block]; exact hn365_2) | (show (Addr.add _ _).block ≠ _; rw [add_block]; exact hn365_2) | exact hn365_2) (.int .i64 ((rd_T46 t359 x12_4).f2))).trans (hw365_1 n_); replace hx365_2 := (cell_far (p := ⟨gb364, 2, none⟩) (by first | (rw [add_block]; exact hn365_2) | (show (Addr.add _ _).block ≠ _; rw [add_block]; exact hn365_2) | exact hn365_2) (.int .i64 ((rd_T46 t359 x12_4).f2))).trans hx365_2; replace hw365_2 := fun (n_ : Nat) => (cell_far (p := ⟨gb364, 2, none⟩) (by first | (rw [add_block]; exact hn365_2) | (show (Addr.add _ _).block ≠ _; rw [add_block]; exact hn365_2) | exact hn365_2) (.int .i64 ((rd_T46 t359 x12_4).f2))).trans (hw365_2 n_); replace hx365_3 := (cell_far (p := ⟨gb364, 2, none⟩) (by first | (rw [add_block]; exact hn365_2) | (show (Addr.add _ _).block ≠ _; rw [add_block]; exact hn365_2) | exact hn365_2) (.int .i64 ((rd_T46 t359 x12_4).f2))).trans hx365_3; replace hw365_3 := fun (n_ : Nat) => (cell_far (p := ⟨gb364, 2, none⟩) (by first | (rw [add_block]; exact hn365_2) | (show (Addr.add _ _).block ≠ _; rw [add_block]; exact hn365_2) | exact hn365_2) (.int .i64 ((rd_T46 t359 x12_4).f2))).trans (hw365_3 n_); replace hx365_4 := (cell_far (p := ⟨gb364, 2, none⟩) (by first | (rw [add_block]; exact hn365_2) | (show (Addr.add _ _).block ≠ _; rw [add_block]; exact hn365_2) | exact hn365_2) (.int .i64 ((rd_T46 t359 x12_4).f2))).trans hx365_4; replace hw365_4 := fun (n_ : Nat) => (cell_far (p := ⟨gb364, 2, none⟩) (by first | (rw [add_block]; exact hn365_2) | (show (Addr.add _ _).block ≠ _; rw [add_block]; exact hn365_2) | exact hn365_2) (.int .i64 ((rd_T46 t359 x12_4).f2))).trans (hw365_4 n_); replace hx365_0 := (cell_far (p := ⟨gb364, 3, none⟩) (by first | (rw [add_block]; exact hn365_3) | (show (Addr.add _ _).block ≠ _; rw [add_block]; exact hn365_3) | exact hn365_3) (.string ((rd_T46 t359 x12_4).f3))).trans hx365_0; replace hw365_0 := fun (n_ : Nat) => (cell_far (p := ⟨gb364, 3, none⟩) (by first | (rw [add_block]; exact hn365_3) | (show (Addr.add _ _).block ≠ _; rw [add_block]; exact hn365_3) | exact hn365_3) (.string ((rd_T46 t359 x12_4).f3))).trans (hw365_0 n_); replace hx365_1 := (cell_far (p := ⟨gb364, 3, none⟩) (by first | (rw [add_block]; exact hn365_3) | (show (Addr.add _ _).block ≠ _; rw [add_block]; exact hn365_3) | exact hn365_3) (.string ((rd_T46 t359 x12_4).f3))).trans hx365_1; replace hw365_1 := fun (n_ : Nat) => (cell_far (p := ⟨gb364, 3, none⟩) (by first | (rw [add_block]; exact hn365_3) | (show (Addr.add _ _).block ≠ _; rw [add_block]; exact hn365_3) | exact hn365_3) (.string ((rd_T46 t359 x12_4).f3))).trans (hw365_1 n_); replace hx365_2 := (cell_far (p := ⟨gb364, 3, none⟩) (by first | (rw [add_block]; exact hn365_3) | (show (Addr.add _ _).block ≠ _; rw [add_block]; exact hn365_3) | exact hn365_3) (.string ((rd_T46 t359 x12_4).f3))).trans hx365_2; replace hw365_2 := fun (n_ : Nat) => (cell_far (p := ⟨gb364, 3, none⟩) (by first | (rw [add_block]; exact hn365_3) | (show (Addr.add _ _).block ≠ _; rw [add_block]; exact hn365_3) | exact hn365_3) (.string ((rd_T46 t359 x12_4).f3))).trans (hw365_2 n_); replace hx365_3 := (cell_far (p := ⟨gb364, 3, none⟩) (by first | (rw [add_block]; exact hn365_3) | (show (Addr.add _ _).block ≠ _; rw [add_block]; exact hn365_3) | exact hn365_3) (.string ((rd_T46 t359 x12_4).f3))).trans hx365_3; replace hw365_3 := fun (n_ : Nat) => (cell_far (p := ⟨gb364, 3, none⟩) (by first | (rw [add_block]; exact hn365_3) | (show (Addr.add _ _).block ≠ _; rw [add_block]; exact hn365_3) | exact hn365_3) (.string ((rd_T46 t359 x12_4).f3))).trans (hw365_3 n_); replace hx365_4 := (cell_far (p := ⟨gb364, 3, none⟩) (by first | (rw [add_block]; exact hn365_3) | (show (Addr.add _ _).block ≠ _; rw [add_block]; exact hn365_3) | exact hn365_3) (.string ((rd_T46 t359 x12_4).f3))).trans hx365_4; replace hw365_4 := fun (n_ : Nat) => (cell_far (p := ⟨gb364, 3, none⟩) (by first | (rw [add_block]; exact hn365_3) | (show (Addr.add _ _).block ≠ _; rw [add_block]; exact hn365_3) | exact hn365_3) (.string ((rd_T46 t359 x12_4).f3))).trans (hw365_4 n_); replace hx365_0 := (cell_far (p := ⟨gb364, 4, none⟩) (by first | (rw [add_block]; exact hn365_4) | (show (Addr.add _ _).block ≠ _; rw [add_block]; exact hn365_4) | exact hn365_4) (.string ((rd_T46 t359 x12_4).f4))).trans hx365_0; replace hw365_0 := fun (n_ : Nat) => (cell_far (p := ⟨gb364, 4, none⟩) (by first | (rw [add_block]; exact hn365_4) | (show (Addr.add _ _).block ≠ _; rw [add_block]; exact hn365_4) | exact hn365_4) (.string ((rd_T46 t359 x12_4).f4))).trans (hw365_0 n_); replace hx365_1 := (cell_far (p := ⟨gb364, 4, none⟩) (by first | (rw [add_block]; exact hn365_4) | (show (Addr.add _ _).block ≠ _; rw [add_block]; exact hn365_4) | exact hn365_4) (.string ((rd_T46 t359 x12_4).f4))).trans hx365_1; replace hw365_1 := fun (n_ : Nat) => (cell_far (p := ⟨gb364, 4, none⟩) (by first | (rw [add_block]; exact hn365_4) | (show (Addr.add _ _).block ≠ _; rw [add_block]; exact hn365_4) | exact hn365_4) (.string ((rd_T46 t359 x12_4).f4))).trans (hw365_1 n_); replace hx365_2 := (cell_far (p := ⟨gb364, 4, none⟩) (by first | (rw [add_block]; exact hn365_4) | (show (Addr.add _ _).block ≠ _; rw [add_block]; exact hn365_4) | exact hn365_4) (.string ((rd_T46 t359 x12_4).f4))).trans hx365_2; replace hw365_2 := fun (n_ : Nat) => (cell_far (p := ⟨gb364, 4, none⟩) (by first | (rw [add_block]; exact hn365_4) | (show (Addr.add _ _).block ≠ _; rw [add_block]; exact hn365_4) | exact hn365_4) (.string ((rd_T46 t359 x12_4).f4))).trans (hw365_2 n_); replace hx365_3 := (cell_far (p := ⟨gb364, 4, none⟩) (by first | (rw [add_block]; exact hn365_4) | (show (Addr.add _ _).block ≠ _; rw [add_block]; exact hn365_4) | exact hn365_4) (.string ((rd_T46 t359 x12_4).f4))).trans hx365_3; replace hw365_3 := fun (n_ : Nat) => (cell_far (p := ⟨gb364, 4, none⟩) (by first | (rw [add_block]; exact hn365_4) | (show (Addr.add _ _).block ≠ _; rw [add_block]; exact hn365_4) | exact hn365_4) (.string ((rd_T46 t359 x12_4).f4))).trans (hw365_3 n_); replace hx365_4 := (cell_far (p := ⟨gb364, 4, none⟩) (by first | (rw [add_block]; exact hn365_4) | (show (Addr.add _ _).block ≠ _; rw [add_block]; exact hn365_4) | exact hn365_4) (.string ((rd_T46 t359 x12_4).f4))).trans hx365_4; replace hw365_4 := fun (n_ : Nat) => (cell_far (p := ⟨gb364, 4, none⟩) (by first | (rw [add_block]; exact hn365_4) | (show (Addr.add _ _).block ≠ _; rw [add_block]; exact hn365_4) | exact hn365_4) (.string ((rd_T46 t359 x12_4).f4))).trans (hw365_4 n_); have hy365_0 := hw365_0; have hy365_1 := hw365_1; have hy365_2 := hw365_2; have hy365_3 := hw365_3; have hy365_4 := hw365_4; clear hn365_0; clear hn365_1; clear hn365_2; clear hn365_3; clear hn365_4; replace p365 := eq_true p365; replace q365 := eq_true q365))
                                  repeat (go_quiet (fail); try go_wp2)
                                  go_roundg k4
                                  case measure => have := HJ7.out; have := HJ13.out; have := HJ31.out; have := HK4.out; omega
                                  case rel => exact ⟨(wrap64 (x12_4 + 1)), (by first | rfl | (simp; done) | (simp [*]; done)), H', ⟨by have := HJ7.out; have := HJ13.out; have := HJ31.out; have := HK4.out; omega⟩, ⟨by (with_reducible repeat (first | apply Kd.R_alloc | apply Kd.R_drewN | apply Kd.R_drew)); exact Kd.R_mono (Kd.R_far (p := ⟨gb364, 4, none⟩) (Kd.R_far (p := ⟨gb364, 3, none⟩) (Kd.R_far (p := ⟨gb364, 2, none⟩) (Kd.R_far (p := ⟨gb364, 1, none⟩) (Kd.R_far (p := ⟨gb364, 0, none⟩) (Kd.R_mono HO_6.out (fun k_ hk => (⟨hk, hk.2⟩ : _ ∧ k_ ≠ gb364))) (fun _ hk => hk.2) (.int .i64 ((rd_T46 t359 x12_4).f0))) (fun _ hk => hk.2) (.int .i64 ((rd_T46 t359 x12_4).f1))) (fun _ hk => hk.2) (.int .i64 ((rd_T46 t359 x12_4).f2))) (fun _ hk => hk.2) (.string ((rd_T46 t359 x12_4).f3))) (fun _ hk => hk.2) (.string ((rd_T46 t359 x12_4).f4))) (fun _ hk => ⟨hk.1.1.1, hk.1.1.2⟩)⟩, ⟨by (with_reducible repeat (first | apply Kd.R_alloc | apply Kd.R_drewN | apply Kd.R_drew)); exact Kd.R_mono (Kd.R_far (p := ⟨gb364, 4, none⟩) (Kd.R_far (p := ⟨gb364, 3, none⟩) (Kd.R_far (p := ⟨gb364, 2, none⟩) (Kd.R_far (p := ⟨gb364, 1, none⟩) (Kd.R_far (p := ⟨gb364, 0, none⟩) (Kd.R_mono HO_8.out (fun k_ hk => (⟨hk, hk.2⟩ : _ ∧ k_ ≠ gb364))) (fun _ hk => hk.2) (.int .i64 ((rd_T46 t359 x12_4).f0))) (fun _ hk => hk.2) (.int .i64 ((rd_T46 t359 x12_4).f1))) (fun _ hk => hk.2) (.int .i64 ((rd_T46 t359 x12_4).f2))) (fun _ hk => hk.2) (.string ((rd_T46 t359 x12_4).f3))) (fun _ hk => hk.2) (.string ((rd_T46 t359 x12_4).f4))) (fun _ hk => ⟨hk.1.1.1, hk.1.1.2⟩)⟩, ⟨by (with_reducible repeat (first | apply Kd.R_alloc | apply Kd.R_drewN | apply Kd.R_drew)); exact Kd.R_mono (Kd.R_far (p := ⟨gb364, 4, none⟩) (Kd.R_far (p := ⟨gb364, 3, none⟩) (Kd.R_far (p := ⟨gb364, 2, none⟩) (Kd.R_far (p := ⟨gb364, 1, none⟩) (Kd.R_far (p := ⟨gb364, 0, none⟩) (Kd.R_mono HO_10.out (fun k_ hk => (⟨hk, hk.2⟩ : _ ∧ k_ ≠ gb364))) (fun _ hk => hk.2) (.int .i64 ((rd_T46 t359 x12_4).f0))) (fun _ hk => hk.2) (.int .i64 ((rd_T46 t359 x12_4).f1))) (fun _ hk => hk.2) (.int .i64 ((rd_T46 t359 x12_4).f2))) (fun _ hk => hk.2) (.string ((rd_T46 t359 x12_4).f3))) (fun _ hk => hk.2) (.string ((rd_T46 t359 x12_4).f4))) (fun _ hk => ⟨hk.1.1.1, hk.1.1.2⟩)⟩, ⟨by repeat (first | (with_reducible first | exact HB.out | apply below_alloc | apply pw_below_drewN | apply below_drew1 | refine below_set ?_ GE364.out) | exact HB.out)⟩⟩
                              · rw [if_neg c41] at H
                                have c41b0 : decide (x12_4 < (t349.length : Int)) = false := decide_eq_false c41
                                clear c41
                                obtain ⟨ji51, hji51⟩ : ∃ j_ : Int, (wrap64 (x12_4 - (t349.length : Int))) = j_ := ⟨_, rfl⟩
                                replace H : (if 0 ≤ (ji51) then (if (ji51) < (t353.length : Int) then (if (!(((rd_T46 t359 x12_4).f0) == ((rd_T46 t353 (ji51)).f0)) || (!((wrap64 (((rd_T46 t359 x12_4).f1) - (t347.size : Int))) == ((rd_T46 t353 (ji51)).f1)) || (!((wrap64 (((rd_T46 t359 x12_4).f2) - (t347.size : Int))) == ((rd_T46 t353 (ji51)).f2)) || (!((((rd_T46 t359 x12_4).f3).toList) == (((rd_T46 t353 (ji51)).f3).toList)) || (!((((rd_T46 t359 x12_4).f4).toList) == (((rd_T46 t353 (ji51)).f4).toList))))))) = true then (some false) else (topiarylaw12_LexerJoins.l0 k4 t347 t346 t349 t353 t359 (wrap64 (x12_4 + 1)))) else (none)) else (none)) = some r := by first | (rw [hji51] at H; exact H) | (simp only [hji51] at H ⊢; exact H)
                                have hji51w : (IntKind.i64.wrap (x12_4 - (t349.length : Int))) = ji51 := (i64_w _).trans hji51
                                by_cases c52 : 0 ≤ (ji51)
                                · rw [if_pos c52] at H
                                  have c52b0 : decide (0 ≤ (ji51)) = true := decide_eq_true c52
                                  clear c52
                                  by_cases c53 : (ji51) < (t353.length : Int)
                                  · rw [if_pos c53] at H
                                    have c53b0 : decide ((ji51) < (t353.length : Int)) = true := decide_eq_true c53
                                    clear c53
                                    by_cases c54 : (!(((rd_T46 t359 x12_4).f0) == ((rd_T46 t353 (ji51)).f0)) || (!((wrap64 (((rd_T46 t359 x12_4).f1) - (t347.size : Int))) == ((rd_T46 t353 (ji51)).f1)) || (!((wrap64 (((rd_T46 t359 x12_4).f2) - (t347.size : Int))) == ((rd_T46 t353 (ji51)).f2)) || (!((((rd_T46 t359 x12_4).f3).toList) == (((rd_T46 t353 (ji51)).f3).toList)) || (!((((rd_T46 t359 x12_4).f4).toList) == (((rd_T46 t353 (ji51)).f4).toList))))))) = true
                                    · rw [if_pos c54] at H
                                      have c54b0 : (!(((rd_T46 t359 x12_4).f0) == ((rd_T46 t353 (ji51)).f0)) || (!((wrap64 (((rd_T46 t359 x12_4).f1) - (t347.size : Int))) == ((rd_T46 t353 (ji51)).f1)) || (!((wrap64 (((rd_T46 t359 x12_4).f2) - (t347.size : Int))) == ((rd_T46 t353 (ji51)).f2)) || (!((((rd_T46 t359 x12_4).f3).toList) == (((rd_T46 t353 (ji51)).f3).toList)) || (!((((rd_T46 t359 x12_4).f4).toList) == (((rd_T46 t353 (ji51)).f4).toList))))))) = true := c54
                                      clear c54
                                      obtain rfl := Option.some.inj H
                                      obtain ⟨Ao55, co55, eo55⟩ := Kd.R_slice HO_10.out
                                      subst eo55
                                      have p363 : 0 ≤ (x12_4 : Int) := of_decide_eq_true (by first | (with_reducible assumption) | assumption)
                                      have q363 : x12_4 < (t359.length : Int) := of_decide_eq_true (by first | (with_reducible assumption) | assumption)
                                      obtain ⟨ad363, e363, hx363_0, hx363_1, hx363_2, hx363_3, hx363_4⟩ := at_T46 (Kd.R_reads' HO_10.out).2.2 x12_4 p363 q363
                                      cases e363
                                      replace p363 := eq_true p363
                                      replace q363 := eq_true q363
                                      go_wp2_with (first | ((with_reducible refine gate_dst (N := 13) rfl ?_); (try (refine gate_guard (by rfl) ?_; dsimp only)); refine box_event ?hg (N := 13) ?hd (cs := #[.int .i64 0, .int .i64 0, .int .i64 0, .string (⟨#[]⟩ : ByteArray), .string (⟨#[]⟩ : ByteArray)]) (t := 46) ?hr ?_; (case hd => rfl); (case hg => rfl); (case hr => first | (go_simp; done) | (go_simp; rfl)); intro gb364 hg w56 hbox hb; have n0_ := Aside0.mk (Kd.R_below (Kd.R_elderB (by (with_reducible repeat (first | apply Kd.R_alloc | apply Kd.R_drewN | apply Kd.R_drew)); exact HO_6.out) gb364 (Nat.le_of_eq hg.symm)) hb); have n1_ := Aside0.mk (Kd.R_below (Kd.R_elderB (by (with_reducible repeat (first | apply Kd.R_alloc | apply Kd.R_drewN | apply Kd.R_drew)); exact HO_8.out) gb364 (Nat.le_of_eq hg.symm)) hb); have n2_ := Aside0.mk (Kd.R_below (Kd.R_elderB (by (with_reducible repeat (first | apply Kd.R_alloc | apply Kd.R_drewN | apply Kd.R_drew)); exact HO_10.out) gb364 (Nat.le_of_eq hg.symm)) hb); have n3_ := Aside0.mk (below_step (by repeat (first | (with_reducible first | exact HB.out | apply below_alloc | apply pw_below_drewN | apply below_drew1) | exact HB.out)) hb); have n4_ := Aside0.mk (hbox); have n5_ := Aside0.mk ((by rw [hg]; exact (below_size (by repeat (first | (with_reducible first | exact HB.out | apply below_alloc | apply pw_below_drewN | apply below_drew1) | exact HB.out))) : w.heap.size ≤ gb364)); have n6_ := Aside0.mk ((by rw [hg]; exact (below_size (by repeat (first | (with_reducible first | exact HB.out | apply below_alloc | apply pw_below_drewN | apply below_drew1) | exact HB.out))) : w.heap.size ≤ gb364)); clear HO_6; clear HO_8; clear HO_10; clear HB; have HO_6 := n0_; have HO_8 := n1_; have HO_10 := n2_; have HB := n3_; have BK364 := n4_; have GW364 := n5_; have GE364 := n6_; clear n0_ n1_ n2_ n3_ n4_ n5_ n6_; clear hb hbox hg; have hcz57_0 : w56.cell? ⟨gb364, 0, none⟩ = some (.int .i64 0) := (blk_cell BK364.out 0).trans rfl; have hcz57_1 : w56.cell? ⟨gb364, 1, none⟩ = some (.int .i64 0) := (blk_cell BK364.out 1).trans rfl; have hcz57_2 : w56.cell? ⟨gb364, 2, none⟩ = some (.int .i64 0) := (blk_cell BK364.out 2).trans rfl; have hcz57_3 : w56.cell? ⟨gb364, 3, none⟩ = some (.string (⟨#[]⟩ : ByteArray)) := (blk_cell BK364.out 3).trans rfl; have hcz57_4 : w56.cell? ⟨gb364, 4, none⟩ = some (.string (⟨#[]⟩ : ByteArray)) := (blk_cell BK364.out 4).trans rfl; have hfz57_0 := blk_frozen BK364.out 0; have hfz57_1 := blk_frozen BK364.out 1; have hfz57_2 := blk_frozen BK364.out 2; have hfz57_3 := blk_frozen BK364.out 3; have hfz57_4 := blk_frozen BK364.out 4; obtain ⟨Ao58, co58, eo58⟩ := Kd.R_slice HO_6.out; subst eo58; obtain ⟨Ao59, co59, eo59⟩ := Kd.R_slice HO_8.out; subst eo59; have p366 : 0 ≤ ((ji51) : Int) := of_decide_eq_true (by first | (with_reducible assumption) | assumption); have q366 : (ji51) < (t353.length : Int) := of_decide_eq_true (by first | (with_reducible assumption) | assumption); obtain ⟨ad366, e366, hx366_0, hx366_1, hx366_2, hx366_3, hx366_4⟩ := at_T46 (Kd.R_reads' HO_8.out).2.2 (ji51) p366 q366; cases e366; have hn366_0 : ad366.block ≠ gb364 := (by first | exact Kd.own_blk (Kd.R_ne HO_8.out BK364.out (by decide)) | exact Kd.own_blk (fun e_ => (HO_8.out.1 _ e_.symm).2 rfl) | exact Kd.own_blk (fun e_ => (HO_8.out.1 _ e_.symm).1.2 rfl)); have hn366_1 : ad366.block ≠ gb364 := (by first | exact Kd.own_blk (Kd.R_ne HO_8.out BK364.out (by decide)) | exact Kd.own_blk (fun e_ => (HO_8.out.1 _ e_.symm).2 rfl) | exact Kd.own_blk (fun e_ => (HO_8.out.1 _ e_.symm).1.2 rfl)); have hn366_2 : ad366.block ≠ gb364 := (by first | exact Kd.own_blk (Kd.R_ne HO_8.out BK364.out (by decide)) | exact Kd.own_blk (fun e_ => (HO_8.out.1 _ e_.symm).2 rfl) | exact Kd.own_blk (fun e_ => (HO_8.out.1 _ e_.symm).1.2 rfl)); have hn366_3 : ad366.block ≠ gb364 := (by first | exact Kd.own_blk (Kd.R_ne HO_8.out BK364.out (by decide)) | exact Kd.own_blk (fun e_ => (HO_8.out.1 _ e_.symm).2 rfl) | exact Kd.own_blk (fun e_ => (HO_8.out.1 _ e_.symm).1.2 rfl)); have hn366_4 : ad366.block ≠ gb364 := (by first | exact Kd.own_blk (Kd.R_ne HO_8.out BK364.out (by decide)) | exact Kd.own_blk (fun e_ => (HO_8.out.1 _ e_.symm).2 rfl) | exact Kd.own_blk (fun e_ => (HO_8.out.1 _ e_.symm).1.2 rfl)); have hn366_5 : ad366.block ≠ gb364 := (by first | exact Kd.own_blk (Kd.R_ne HO_8.out BK364.out (by decide)) | exact Kd.own_blk (fun e_ => (HO_8.out.1 _ e_.symm).2 rfl) | exact Kd.own_blk (fun e_ => (HO_8.out.1 _ e_.symm).1.2 rfl)); have hn366_6 : ad366.block ≠ gb364 := (by first | exact Kd.own_blk (Kd.R_ne HO_8.out BK364.out (by decide)) | exact Kd.own_blk (fun e_ => (HO_8.out.1 _ e_.symm).2 rfl) | exact Kd.own_blk (fun e_ => (HO_8.out.1 _ e_.symm).1.2 rfl)); have hw366_0 := fun (n_ : Nat) => (show (w56.drewN n_).cell? _ = some _ from hx366_0); replace hx366_0 := (cell_far (p := ⟨gb364, 0, none⟩) (by first | (rw [add_block]; exact hn366_0) | (show (Addr.add _ _).block ≠ _; rw [add_block]; exact hn366_0) | exact hn366_0) (.int .i64 ((rd_T46 t359 x12_4).f0))).trans hx366_0; replace hw366_0 := fun (n_ : Nat) => (cell_far (p := ⟨gb364, 0, none⟩) (by first | (rw [add_block]; exact hn366_0) | (show (Addr.add _ _).block ≠ _; rw [add_block]; exact hn366_0) | exact hn366_0) (.int .i64 ((rd_T46 t359 x12_4).f0))).trans (hw366_0 n_); have hw366_1 := fun (n_ : Nat) => (show (w56.drewN n_).cell? _ = some _ from hx366_1); replace hx366_1 := (cell_far (p := ⟨gb364, 0, none⟩) (by first | (rw [add_block]; exact hn366_0) | (show (Addr.add _ _).block ≠ _; rw [add_block]; exact hn366_0) | exact hn366_0) (.int .i64 ((rd_T46 t359 x12_4).f0))).trans hx366_1; replace hw366_1 := fun (n_ : Nat) => (cell_far (p := ⟨gb364, 0, none⟩) (by first | (rw [add_block]; exact hn366_0) | (show (Addr.add _ _).block ≠ _; rw [add_block]; exact hn366_0) | exact hn366_0) (.int .i64 ((rd_T46 t359 x12_4).f0))).trans (hw366_1 n_); have hw366_2 := fun (n_ : Nat) => (show (w56.drewN n_).cell? _ = some _ from hx366_2); replace hx366_2 := (cell_far (p := ⟨gb364, 0, none⟩) (by first | (rw [add_block]; exact hn366_0) | (show (Addr.add _ _).block ≠ _; rw [add_block]; exact hn366_0) | exact hn366_0) (.int .i64 ((rd_T46 t359 x12_4).f0))).trans hx366_2; replace hw366_2 := fun (n_ : Nat) => (cell_far (p := ⟨gb364, 0, none⟩) (by first | (rw [add_block]; exact hn366_0) | (show (Addr.add _ _).block ≠ _; rw [add_block]; exact hn366_0) | exact hn366_0) (.int .i64 ((rd_T46 t359 x12_4).f0))).trans (hw366_2 n_); have hw366_3 := fun (n_ : Nat) => (show (w56.drewN n_).cell? _ = some _ from hx366_3); replace hx366_3 := (cell_far (p := ⟨gb364, 0, none⟩) (by first | (rw [add_block]; exact hn366_0) | (show (Addr.add _ _).block ≠ _; rw [add_block]; exact hn366_0) | exact hn366_0) (.int .i64 ((rd_T46 t359 x12_4).f0))).trans hx366_3; replace hw366_3 := fun (n_ : Nat) => (cell_far (p := ⟨gb364, 0, none⟩) (by first | (rw [add_block]; exact hn366_0) | (show (Addr.add _ _).block ≠ _; rw [add_block]; exact hn366_0) | exact hn366_0) (.int .i64 ((rd_T46 t359 x12_4).f0))).trans (hw366_3 n_); have hw366_4 := fun (n_ : Nat) => (show (w56.drewN n_).cell? _ = some _ from hx366_4); replace hx366_4 := (cell_far (p := ⟨gb364, 0, none⟩) (by first | (rw [add_block]; exact hn366_0) | (show (Addr.add _ _).block ≠ _; rw [add_block]; exact hn366_0) | exact hn366_0) (.int .i64 ((rd_T46 t359 x12_4).f0))).trans hx366_4; replace hw366_4 := fun (n_ : Nat) => (cell_far (p := ⟨gb364, 0, none⟩) (by first | (rw [add_block]; exact hn366_0) | (show (Addr.add _ _).block ≠ _; rw [add_block]; exact hn366_0) | exact hn366_0) (.int .i64 ((rd_T46 t359 x12_4).f0))).trans (hw366_4 n_); replace hx366_0 := (cell_far (p := ⟨gb364, 1, none⟩) (by first | (rw [add_block]; exact hn366_1) | (show (Addr.add _ _).block ≠ _; rw [add_block]; exact hn366_1) | exact hn366_1) (.int .i64 ((rd_T46 t359 x12_4).f1))).trans hx366_0; replace hw366_0 := fun (n_ : Nat) => (cell_far (p := ⟨gb364, 1, none⟩) (by first | (rw [add_block]; exact hn366_1) | (show (Addr.add _ _).block ≠ _; rw [add_block]; exact hn366_1) | exact hn366_1) (.int .i64 ((rd_T46 t359 x12_4).f1))).trans (hw366_0 n_); replace hx366_1 := (cell_far (p := ⟨gb364, 1, none⟩) (by first | (rw [add_block]; exact hn366_1) | (show (Addr.add _ _).block ≠ _; rw [add_block]; exact hn366_1) | exact hn366_1) (.int .i64 ((rd_T46 t359 x12_4).f1))).trans hx366_1; replace hw366_1 := fun (n_ : Nat) => (cell_far (p := ⟨gb364, 1, none⟩) (by first | (rw [add_block]; exact hn366_1) | (show (Addr.add _ _).block ≠ _; rw [add_block]; exact hn366_1) | exact hn366_1) (.int .i64 ((rd_T46 t359 x12_4).f1))).trans (hw366_1 n_); replace hx366_2 := (cell_far (p := ⟨gb364, 1, none⟩) (by first | (rw [add_block]; exact hn366_1) | (show (Addr.add _ _).block ≠ _; rw [add_block]; exact hn366_1) | exact hn366_1) (.int .i64 ((rd_T46 t359 x12_4).f1))).trans hx366_2; replace hw366_2 := fun (n_ : Nat) => (cell_far (p := ⟨gb364, 1, none⟩) (by first | (rw [add_block]; exact hn366_1) | (show (Addr.add _ _).block ≠ _; rw [add_block]; exact hn366_1) | exact hn366_1) (.int .i64 ((rd_T46 t359 x12_4).f1))).trans (hw366_2 n_); replace hx366_3 := (cell_far (p := ⟨gb364, 1, none⟩) (by first | (rw [add_block]; exact hn366_1) | (show (Addr.add _ _).block ≠ _; rw [add_block]; exact hn366_1) | exact hn366_1) (.int .i64 ((rd_T46 t359 x12_4).f1))).trans hx366_3; replace hw366_3 := fun (n_ : Nat) => (cell_far (p := ⟨gb364, 1, none⟩) (by first | (rw [add_block]; exact hn366_1) | (show (Addr.add _ _).block ≠ _; rw [add_block]; exact hn366_1) | exact hn366_1) (.int .i64 ((rd_T46 t359 x12_4).f1))).trans (hw366_3 n_); replace hx366_4 := (cell_far (p := ⟨gb364, 1, none⟩) (by first | (rw [add_block]; exact hn366_1) | (show (Addr.add _ _).block ≠ _; rw [add_block]; exact hn366_1) | exact hn366_1) (.int .i64 ((rd_T46 t359 x12_4).f1))).trans hx366_4; replace hw366_4 := fun (n_ : Nat) => (cell_far (p := ⟨gb364, 1, none⟩) (by first | (rw [add_block]; exact hn366_1) | (show (Addr.add _ _).block ≠ _; rw [add_block]; exact hn366_1) | exact hn366_1) (.int .i64 ((rd_T46 t359 x12_4).f1))).trans (hw366_4 n_); replace hx366_0 := (cell_far (p := ⟨gb364, 2, none⟩) (by first | (rw [add_block]; exact hn366_2) | (show (Addr.add _ _).block ≠ _; rw [add_block]; exact hn366_2) | exact hn366_2) (.int .i64 ((rd_T46 t359 x12_4).f2))).trans hx366_0; replace hw366_0 := fun (n_ : Nat) => (cell_far (p := ⟨gb364, 2, none⟩) (by first | (rw [add_block]; exact hn366_2) | (show (Addr.add _ _).block ≠ _; rw [add_block]; exact hn366_2) | exact hn366_2) (.int .i64 ((rd_T46 t359 x12_4).f2))).trans (hw366_0 n_); replace hx366_1 := (cell_far (p := ⟨gb364, 2, none⟩) (by first | (rw [add_block]; exact hn366_2) | (show (Addr.add _ _).block ≠ _; rw [add_block]; exact hn366_2) | exact hn366_2) (.int .i64 ((rd_T46 t359 x12_4).f2))).trans hx366_1; replace hw366_1 := fun (n_ : Nat) => (cell_far (p := ⟨gb364, 2, none⟩) (by first | (rw [add_block]; exact hn366_2) | (show (Addr.add _ _).block ≠ _; rw [add_block]; exact hn366_2) | exact hn366_2) (.int .i64 ((rd_T46 t359 x12_4).f2))).trans (hw366_1 n_); replace hx366_2 := (cell_far (p := ⟨gb364, 2, none⟩) (by first | (rw [add_block]; exact hn366_2) | (show (Addr.add _ _).block ≠ _; rw [add_block]; exact hn366_2) | exact hn366_2) (.int .i64 ((rd_T46 t359 x12_4).f2))).trans hx366_2; replace hw366_2 := fun (n_ : Nat) => (cell_far (p := ⟨gb364, 2, none⟩) (by first | (rw [add_block]; exact hn366_2) | (show (Addr.add _ _).block ≠ _; rw [add_block]; exact hn366_2) | exact hn366_2) (.int .i64 ((rd_T46 t359 x12_4).f2))).trans (hw366_2 n_); replace hx366_3 := (cell_far (p := ⟨gb364, 2, none⟩) (by first | (rw [add_block]; exact hn366_2) | (show (Addr.add _ _).block ≠ _; rw [add_block]; exact hn366_2) | exact hn366_2) (.int .i64 ((rd_T46 t359 x12_4).f2))).trans hx366_3; replace hw366_3 := fun (n_ : Nat) => (cell_far (p := ⟨gb364, 2, none⟩) (by first | (rw [add_block]; exact hn366_2) | (show (Addr.add _ _).block ≠ _; rw [add_block]; exact hn366_2) | exact hn366_2) (.int .i64 ((rd_T46 t359 x12_4).f2))).trans (hw366_3 n_); replace hx366_4 := (cell_far (p := ⟨gb364, 2, none⟩) (by first | (rw [add_block]; exact hn366_2) | (show (Addr.add _ _).block ≠ _; rw [add_block]; exact hn366_2) | exact hn366_2) (.int .i64 ((rd_T46 t359 x12_4).f2))).trans hx366_4; replace hw366_4 := fun (n_ : Nat) => (cell_far (p := ⟨gb364, 2, none⟩) (by first | (rw [add_block]; exact hn366_2) | (show (Addr.add _ _).block ≠ _; rw [add_block]; exact hn366_2) | exact hn366_2) (.int .i64 ((rd_T46 t359 x12_4).f2))).trans (hw366_4 n_); replace hx366_0 := (cell_far (p := ⟨gb364, 3, none⟩) (by first | (rw [add_block]; exact hn366_3) | (show (Addr.add _ _).block ≠ _; rw [add_block]; exact hn366_3) | exact hn366_3) (.string ((rd_T46 t359 x12_4).f3))).trans hx366_0; replace hw366_0 := fun (n_ : Nat) => (cell_far (p := ⟨gb364, 3, none⟩) (by first | (rw [add_block]; exact hn366_3) | (show (Addr.add _ _).block ≠ _; rw [add_block]; exact hn366_3) | exact hn366_3) (.string ((rd_T46 t359 x12_4).f3))).trans (hw366_0 n_); replace hx366_1 := (cell_far (p := ⟨gb364, 3, none⟩) (by first | (rw [add_block]; exact hn366_3) | (show (Addr.add _ _).block ≠ _; rw [add_block]; exact hn366_3) | exact hn366_3) (.string ((rd_T46 t359 x12_4).f3))).trans hx366_1; replace hw366_1 := fun (n_ : Nat) => (cell_far (p := ⟨gb364, 3, none⟩) (by first | (rw [add_block]; exact hn366_3) | (show (Addr.add _ _).block ≠ _; rw [add_block]; exact hn366_3) | exact hn366_3) (.string ((rd_T46 t359 x12_4).f3))).trans (hw366_1 n_); replace hx366_2 := (cell_far (p := ⟨gb364, 3, none⟩) (by first | (rw [add_block]; exact hn366_3) | (show (Addr.add _ _).block ≠ _; rw [add_block]; exact hn366_3) | exact hn366_3) (.string ((rd_T46 t359 x12_4).f3))).trans hx366_2; replace hw366_2 := fun (n_ : Nat) => (cell_far (p := ⟨gb364, 3, none⟩) (by first | (rw [add_block]; exact hn366_3) | (show (Addr.add _ _).block ≠ _; rw [add_block]; exact hn366_3) | exact hn366_3) (.string ((rd_T46 t359 x12_4).f3))).trans (hw366_2 n_); replace hx366_3 := (cell_far (p := ⟨gb364, 3, none⟩) (by first | (rw [add_block]; exact hn366_3) | (show (Addr.add _ _).block ≠ _; rw [add_block]; exact hn366_3) | exact hn366_3) (.string ((rd_T46 t359 x12_4).f3))).trans hx366_3; replace hw366_3 := fun (n_ : Nat) => (cell_far (p := ⟨gb364, 3, none⟩) (by first | (rw [add_block]; exact hn366_3) | (show (Addr.add _ _).block ≠ _; rw [add_block]; exact hn366_3) | exact hn366_3) (.string ((rd_T46 t359 x12_4).f3))).trans (hw366_3 n_); replace hx366_4 := (cell_far (p := ⟨gb364, 3, none⟩) (by first | (rw [add_block]; exact hn366_3) | (show (Addr.add _ _).block ≠ _; rw [add_block]; exact hn366_3) | exact hn366_3) (.string ((rd_T46 t359 x12_4).f3))).trans hx366_4; replace hw366_4 := fun (n_ : Nat) => (cell_far (p := ⟨gb364, 3, none⟩) (by first | (rw [add_block]; exact hn366_3) | (show (Addr.add _ _).block ≠ _; rw [add_block]; exact hn366_3) | exact hn366_3) (.string ((rd_T46 t359 x12_4).f3))).trans (hw366_4 n_); replace hx366_0 := (cell_far (p := ⟨gb364, 4, none⟩) (by first | (rw [add_block]; exact hn366_4) | (show (Addr.add _ _).block ≠ _; rw [add_block]; exact hn366_4) | exact hn366_4) (.string ((rd_T46 t359 x12_4).f4))).trans hx366_0; replace hw366_0 := fun (n_ : Nat) => (cell_far (p := ⟨gb364, 4, none⟩) (by first | (rw [add_block]; exact hn366_4) | (show (Addr.add _ _).block ≠ _; rw [add_block]; exact hn366_4) | exact hn366_4) (.string ((rd_T46 t359 x12_4).f4))).trans (hw366_0 n_); replace hx366_1 := (cell_far (p := ⟨gb364, 4, none⟩) (by first | (rw [add_block]; exact hn366_4) | (show (Addr.add _ _).block ≠ _; rw [add_block]; exact hn366_4) | exact hn366_4) (.string ((rd_T46 t359 x12_4).f4))).trans hx366_1; replace hw366_1 := fun (n_ : Nat) => (cell_far (p := ⟨gb364, 4, none⟩) (by first | (rw [add_block]; exact hn366_4) | (show (Addr.add _ _).block ≠ _; rw [add_block]; exact hn366_4) | exact hn366_4) (.string ((rd_T46 t359 x12_4).f4))).trans (hw366_1 n_); replace hx366_2 := (cell_far (p := ⟨gb364, 4, none⟩) (by first | (rw [add_block]; exact hn366_4) | (show (Addr.add _ _).block ≠ _; rw [add_block]; exact hn366_4) | exact hn366_4) (.string ((rd_T46 t359 x12_4).f4))).trans hx366_2; replace hw366_2 := fun (n_ : Nat) => (cell_far (p := ⟨gb364, 4, none⟩) (by first | (rw [add_block]; exact hn366_4) | (show (Addr.add _ _).block ≠ _; rw [add_block]; exact hn366_4) | exact hn366_4) (.string ((rd_T46 t359 x12_4).f4))).trans (hw366_2 n_); replace hx366_3 := (cell_far (p := ⟨gb364, 4, none⟩) (by first | (rw [add_block]; exact hn366_4) | (show (Addr.add _ _).block ≠ _; rw [add_block]; exact hn366_4) | exact hn366_4) (.string ((rd_T46 t359 x12_4).f4))).trans hx366_3; replace hw366_3 := fun (n_ : Nat) => (cell_far (p := ⟨gb364, 4, none⟩) (by first | (rw [add_block]; exact hn366_4) | (show (Addr.add _ _).block ≠ _; rw [add_block]; exact hn366_4) | exact hn366_4) (.string ((rd_T46 t359 x12_4).f4))).trans (hw366_3 n_); replace hx366_4 := (cell_far (p := ⟨gb364, 4, none⟩) (by first | (rw [add_block]; exact hn366_4) | (show (Addr.add _ _).block ≠ _; rw [add_block]; exact hn366_4) | exact hn366_4) (.string ((rd_T46 t359 x12_4).f4))).trans hx366_4; replace hw366_4 := fun (n_ : Nat) => (cell_far (p := ⟨gb364, 4, none⟩) (by first | (rw [add_block]; exact hn366_4) | (show (Addr.add _ _).block ≠ _; rw [add_block]; exact hn366_4) | exact hn366_4) (.string ((rd_T46 t359 x12_4).f4))).trans (hw366_4 n_); replace hx366_0 := (cell_far (p := ⟨gb364, 1, none⟩) (by first | (rw [add_block]; exact hn366_5) | (show (Addr.add _ _).block ≠ _; rw [add_block]; exact hn366_5) | exact hn366_5) (.int .i64 (wrap64 (((rd_T46 t359 x12_4).f1) - (t347.size : Int))))).trans hx366_0; replace hw366_0 := fun (n_ : Nat) => (cell_far (p := ⟨gb364, 1, none⟩) (by first | (rw [add_block]; exact hn366_5) | (show (Addr.add _ _).block ≠ _; rw [add_block]; exact hn366_5) | exact hn366_5) (.int .i64 (wrap64 (((rd_T46 t359 x12_4).f1) - (t347.size : Int))))).trans (hw366_0 n_); replace hx366_1 := (cell_far (p := ⟨gb364, 1, none⟩) (by first | (rw [add_block]; exact hn366_5) | (show (Addr.add _ _).block ≠ _; rw [add_block]; exact hn366_5) | exact hn366_5) (.int .i64 (wrap64 (((rd_T46 t359 x12_4).f1) - (t347.size : Int))))).trans hx366_1; replace hw366_1 := fun (n_ : Nat) => (cell_far (p := ⟨gb364, 1, none⟩) (by first | (rw [add_block]; exact hn366_5) | (show (Addr.add _ _).block ≠ _; rw [add_block]; exact hn366_5) | exact hn366_5) (.int .i64 (wrap64 (((rd_T46 t359 x12_4).f1) - (t347.size : Int))))).trans (hw366_1 n_); replace hx366_2 := (cell_far (p := ⟨gb364, 1, none⟩) (by first | (rw [add_block]; exact hn366_5) | (show (Addr.add _ _).block ≠ _; rw [add_block]; exact hn366_5) | exact hn366_5) (.int .i64 (wrap64 (((rd_T46 t359 x12_4).f1) - (t347.size : Int))))).trans hx366_2; replace hw366_2 := fun (n_ : Nat) => (cell_far (p := ⟨gb364, 1, none⟩) (by first | (rw [add_block]; exact hn366_5) | (show (Addr.add _ _).block ≠ _; rw [add_block]; exact hn366_5) | exact hn366_5) (.int .i64 (wrap64 (((rd_T46 t359 x12_4).f1) - (t347.size : Int))))).trans (hw366_2 n_); replace hx366_3 := (cell_far (p := ⟨gb364, 1, none⟩) (by first | (rw [add_block]; exact hn366_5) | (show (Addr.add _ _).block ≠ _; rw [add_block]; exact hn366_5) | exact hn366_5) (.int .i64 (wrap64 (((rd_T46 t359 x12_4).f1) - (t347.size : Int))))).trans hx366_3; replace hw366_3 := fun (n_ : Nat) => (cell_far (p := ⟨gb364, 1, none⟩) (by first | (rw [add_block]; exact hn366_5) | (show (Addr.add _ _).block ≠ _; rw [add_block]; exact hn366_5) | exact hn366_5) (.int .i64 (wrap64 (((rd_T46 t359 x12_4).f1) - (t347.size : Int))))).trans (hw366_3 n_); replace hx366_4 := (cell_far (p := ⟨gb364, 1, none⟩) (by first | (rw [add_block]; exact hn366_5) | (show (Addr.add _ _).block ≠ _; rw [add_block]; exact hn366_5) | exact hn366_5) (.int .i64 (wrap64 (((rd_T46 t359 x12_4).f1) - (t347.size : Int))))).trans hx366_4; replace hw366_4 := fun (n_ : Nat) => (cell_far (p := ⟨gb364, 1, none⟩) (by first | (rw [add_block]; exact hn366_5) | (show (Addr.add _ _).block ≠ _; rw [add_block]; exact hn366_5) | exact hn366_5) (.int .i64 (wrap64 (((rd_T46 t359 x12_4).f1) - (t347.size : Int))))).trans (hw366_4 n_); replace hx366_0 := (cell_far (p := ⟨gb364, 2, none⟩) (by first | (rw [add_block]; exact hn366_6) | (show (Addr.add _ _).block ≠ _; rw [add_block]; exact hn366_6) | exact hn366_6) (.int .i64 (wrap64 (((rd_T46 t359 x12_4).f2) - (t347.size : Int))))).trans hx366_0; replace hw366_0 := fun (n_ : Nat) => (cell_far (p := ⟨gb364, 2, none⟩) (by first | (rw [add_block]; exact hn366_6) | (show (Addr.add _ _).block ≠ _; rw [add_block]; exact hn366_6) | exact hn366_6) (.int .i64 (wrap64 (((rd_T46 t359 x12_4).f2) - (t347.size : Int))))).trans (hw366_0 n_); replace hx366_1 := (cell_far (p := ⟨gb364, 2, none⟩) (by first | (rw [add_block]; exact hn366_6) | (show (Addr.add _ _).block ≠ _; rw [add_block]; exact hn366_6) | exact hn366_6) (.int .i64 (wrap64 (((rd_T46 t359 x12_4).f2) - (t347.size : Int))))).trans hx366_1; replace hw366_1 := fun (n_ : Nat) => (cell_far (p := ⟨gb364, 2, none⟩) (by first | (rw [add_block]; exact hn366_6) | (show (Addr.add _ _).block ≠ _; rw [add_block]; exact hn366_6) | exact hn366_6) (.int .i64 (wrap64 (((rd_T46 t359 x12_4).f2) - (t347.size : Int))))).trans (hw366_1 n_); replace hx366_2 := (cell_far (p := ⟨gb364, 2, none⟩) (by first | (rw [add_block]; exact hn366_6) | (show (Addr.add _ _).block ≠ _; rw [add_block]; exact hn366_6) | exact hn366_6) (.int .i64 (wrap64 (((rd_T46 t359 x12_4).f2) - (t347.size : Int))))).trans hx366_2; replace hw366_2 := fun (n_ : Nat) => (cell_far (p := ⟨gb364, 2, none⟩) (by first | (rw [add_block]; exact hn366_6) | (show (Addr.add _ _).block ≠ _; rw [add_block]; exact hn366_6) | exact hn366_6) (.int .i64 (wrap64 (((rd_T46 t359 x12_4).f2) - (t347.size : Int))))).trans (hw366_2 n_); replace hx366_3 := (cell_far (p := ⟨gb364, 2, none⟩) (by first | (rw [add_block]; exact hn366_6) | (show (Addr.add _ _).block ≠ _; rw [add_block]; exact hn366_6) | exact hn366_6) (.int .i64 (wrap64 (((rd_T46 t359 x12_4).f2) - (t347.size : Int))))).trans hx366_3; replace hw366_3 := fun (n_ : Nat) => (cell_far (p := ⟨gb364, 2, none⟩) (by first | (rw [add_block]; exact hn366_6) | (show (Addr.add _ _).block ≠ _; rw [add_block]; exact hn366_6) | exact hn366_6) (.int .i64 (wrap64 (((rd_T46 t359 x12_4).f2) - (t347.size : Int))))).trans (hw366_3 n_); replace hx366_4 := (cell_far (p := ⟨gb364, 2, none⟩) (by first | (rw [add_block]; exact hn366_6) | (show (Addr.add _ _).block ≠ _; rw [add_block]; exact hn366_6) | exact hn366_6) (.int .i64 (wrap64 (((rd_T46 t359 x12_4).f2) - (t347.size : Int))))).trans hx366_4; replace hw366_4 := fun (n_ : Nat) => (cell_far (p := ⟨gb364, 2, none⟩) (by first | (rw [add_block]; exact hn366_6) | (show (Addr.add _ _).block ≠ _; rw [add_block]; exact hn366_6) | exact hn366_6) (.int .i64 (wrap64 (((rd_T46 t359 x12_4).f2) - (t347.size : Int))))).trans (hw366_4 n_); have hrs_5 : ((((((w56.setCell ⟨gb364, 0, none⟩ (.int .i64 ((rd_T46 t359 x12_4).f0))).setCell ⟨gb364, 1, none⟩ (.int .i64 ((rd_T46 t359 x12_4).f1))).setCell ⟨gb364, 2, none⟩ (.int .i64 ((rd_T46 t359 x12_4).f2))).setCell ⟨gb364, 3, none⟩ (.string ((rd_T46 t359 x12_4).f3))).setCell ⟨gb364, 4, none⟩ (.string ((rd_T46 t359 x12_4).f4))).setCell ⟨gb364, 1, none⟩ (.int .i64 (wrap64 (((rd_T46 t359 x12_4).f1) - (t347.size : Int))))).cell? ⟨gb364, 1, none⟩ = some (.int .i64 (wrap64 (((rd_T46 t359 x12_4).f1) - (t347.size : Int)))) := (blk_cell (blk_set (blk_set (blk_set (blk_set (blk_set (blk_set BK364.out 0 (.int .i64 ((rd_T46 t359 x12_4).f0))) 1 (.int .i64 ((rd_T46 t359 x12_4).f1))) 2 (.int .i64 ((rd_T46 t359 x12_4).f2))) 3 (.string ((rd_T46 t359 x12_4).f3))) 4 (.string ((rd_T46 t359 x12_4).f4))) 1 (.int .i64 (wrap64 (((rd_T46 t359 x12_4).f1) - (t347.size : Int))))) 1).trans rfl; have hrt_5 : ∀ n_ : Nat, (((((((w56.drewN n_).setCell ⟨gb364, 0, none⟩ (.int .i64 ((rd_T46 t359 x12_4).f0))).setCell ⟨gb364, 1, none⟩ (.int .i64 ((rd_T46 t359 x12_4).f1))).setCell ⟨gb364, 2, none⟩ (.int .i64 ((rd_T46 t359 x12_4).f2))).setCell ⟨gb364, 3, none⟩ (.string ((rd_T46 t359 x12_4).f3))).setCell ⟨gb364, 4, none⟩ (.string ((rd_T46 t359 x12_4).f4))).setCell ⟨gb364, 1, none⟩ (.int .i64 (wrap64 (((rd_T46 t359 x12_4).f1) - (t347.size : Int))))).cell? ⟨gb364, 1, none⟩ = some (.int .i64 (wrap64 (((rd_T46 t359 x12_4).f1) - (t347.size : Int)))) := fun n_ => (blk_cell (blk_set (blk_set (blk_set (blk_set (blk_set (blk_set (blk_drewN BK364.out n_) 0 (.int .i64 ((rd_T46 t359 x12_4).f0))) 1 (.int .i64 ((rd_T46 t359 x12_4).f1))) 2 (.int .i64 ((rd_T46 t359 x12_4).f2))) 3 (.string ((rd_T46 t359 x12_4).f3))) 4 (.string ((rd_T46 t359 x12_4).f4))) 1 (.int .i64 (wrap64 (((rd_T46 t359 x12_4).f1) - (t347.size : Int))))) 1).trans rfl; have hrs_6 : (((((((w56.setCell ⟨gb364, 0, none⟩ (.int .i64 ((rd_T46 t359 x12_4).f0))).setCell ⟨gb364, 1, none⟩ (.int .i64 ((rd_T46 t359 x12_4).f1))).setCell ⟨gb364, 2, none⟩ (.int .i64 ((rd_T46 t359 x12_4).f2))).setCell ⟨gb364, 3, none⟩ (.string ((rd_T46 t359 x12_4).f3))).setCell ⟨gb364, 4, none⟩ (.string ((rd_T46 t359 x12_4).f4))).setCell ⟨gb364, 1, none⟩ (.int .i64 (wrap64 (((rd_T46 t359 x12_4).f1) - (t347.size : Int))))).setCell ⟨gb364, 2, none⟩ (.int .i64 (wrap64 (((rd_T46 t359 x12_4).f2) - (t347.size : Int))))).cell? ⟨gb364, 2, none⟩ = some (.int .i64 (wrap64 (((rd_T46 t359 x12_4).f2) - (t347.size : Int)))) := (blk_cell (blk_set (blk_set (blk_set (blk_set (blk_set (blk_set (blk_set BK364.out 0 (.int .i64 ((rd_T46 t359 x12_4).f0))) 1 (.int .i64 ((rd_T46 t359 x12_4).f1))) 2 (.int .i64 ((rd_T46 t359 x12_4).f2))) 3 (.string ((rd_T46 t359 x12_4).f3))) 4 (.string ((rd_T46 t359 x12_4).f4))) 1 (.int .i64 (wrap64 (((rd_T46 t359 x12_4).f1) - (t347.size : Int))))) 2 (.int .i64 (wrap64 (((rd_T46 t359 x12_4).f2) - (t347.size : Int))))) 2).trans rfl; have hrt_6 : ∀ n_ : Nat, ((((((((w56.drewN n_).setCell ⟨gb364, 0, none⟩ (.int .i64 ((rd_T46 t359 x12_4).f0))).setCell ⟨gb364, 1, none⟩ (.int .i64 ((rd_T46 t359 x12_4).f1))).setCell ⟨gb364, 2, none⟩ (.int .i64 ((rd_T46 t359 x12_4).f2))).setCell ⟨gb364, 3, none⟩ (.string ((rd_T46 t359 x12_4).f3))).setCell ⟨gb364, 4, none⟩ (.string ((rd_T46 t359 x12_4).f4))).setCell ⟨gb364, 1, none⟩ (.int .i64 (wrap64 (((rd_T46 t359 x12_4).f1) - (t347.size : Int))))).setCell ⟨gb364, 2, none⟩ (.int .i64 (wrap64 (((rd_T46 t359 x12_4).f2) - (t347.size : Int))))).cell? ⟨gb364, 2, none⟩ = some (.int .i64 (wrap64 (((rd_T46 t359 x12_4).f2) - (t347.size : Int)))) := fun n_ => (blk_cell (blk_set (blk_set (blk_set (blk_set (blk_set (blk_set (blk_set (blk_drewN BK364.out n_) 0 (.int .i64 ((rd_T46 t359 x12_4).f0))) 1 (.int .i64 ((rd_T46 t359 x12_4).f1))) 2 (.int .i64 ((rd_T46 t359 x12_4).f2))) 3 (.string ((rd_T46 t359 x12_4).f3))) 4 (.string ((rd_T46 t359 x12_4).f4))) 1 (.int .i64 (wrap64 (((rd_T46 t359 x12_4).f1) - (t347.size : Int))))) 2 (.int .i64 (wrap64 (((rd_T46 t359 x12_4).f2) - (t347.size : Int))))) 2).trans rfl; have hy366_0 := hw366_0; have hy366_1 := hw366_1; have hy366_2 := hw366_2; have hy366_3 := hw366_3; have hy366_4 := hw366_4; clear hn366_0; clear hn366_1; clear hn366_2; clear hn366_3; clear hn366_4; clear hn366_5; clear hn366_6; replace p366 := eq_true p366; replace q366 := eq_true q366))
                                      repeat (go_quiet (fail); try go_wp2)
                                      go_ret
                                      exact ⟨by first | rfl | (simp [errW_none, errW_some] <;> rfl) | (simp only [← hji51]; first | rfl | (simp [errW_none, errW_some] <;> rfl)) | (simp [*, errW_none, errW_some] <;> rfl), by repeat (first | (with_reducible first | exact HB.out | apply below_alloc | apply pw_below_drewN | apply below_drew1 | refine below_set ?_ GE364.out) | exact HB.out)⟩
                                    · rw [if_neg c54] at H
                                      have c54b0 : (!(((rd_T46 t359 x12_4).f0) == ((rd_T46 t353 (ji51)).f0)) || (!((wrap64 (((rd_T46 t359 x12_4).f1) - (t347.size : Int))) == ((rd_T46 t353 (ji51)).f1)) || (!((wrap64 (((rd_T46 t359 x12_4).f2) - (t347.size : Int))) == ((rd_T46 t353 (ji51)).f2)) || (!((((rd_T46 t359 x12_4).f3).toList) == (((rd_T46 t353 (ji51)).f3).toList)) || (!((((rd_T46 t359 x12_4).f4).toList) == (((rd_T46 t353 (ji51)).f4).toList))))))) = false := by simpa using c54
                                      clear c54
                                      have H' := Aside0.mk H
                                      clear H
                                      obtain ⟨Ao60, co60, eo60⟩ := Kd.R_slice HO_10.out
                                      subst eo60
                                      have p363 : 0 ≤ (x12_4 : Int) := of_decide_eq_true (by first | (with_reducible assumption) | assumption)
                                      have q363 : x12_4 < (t359.length : Int) := of_decide_eq_true (by first | (with_reducible assumption) | assumption)
                                      obtain ⟨ad363, e363, hx363_0, hx363_1, hx363_2, hx363_3, hx363_4⟩ := at_T46 (Kd.R_reads' HO_10.out).2.2 x12_4 p363 q363
                                      cases e363
                                      replace p363 := eq_true p363
                                      replace q363 := eq_true q363
                                      go_wp2_with (first | ((with_reducible refine gate_dst (N := 13) rfl ?_); (try (refine gate_guard (by rfl) ?_; dsimp only)); refine box_event ?hg (N := 13) ?hd (cs := #[.int .i64 0, .int .i64 0, .int .i64 0, .string (⟨#[]⟩ : ByteArray), .string (⟨#[]⟩ : ByteArray)]) (t := 46) ?hr ?_; (case hd => rfl); (case hg => rfl); (case hr => first | (go_simp; done) | (go_simp; rfl)); intro gb364 hg w61 hbox hb; have n0_ := Aside0.mk (Kd.R_below (Kd.R_elderB (by (with_reducible repeat (first | apply Kd.R_alloc | apply Kd.R_drewN | apply Kd.R_drew)); exact HO_6.out) gb364 (Nat.le_of_eq hg.symm)) hb); have n1_ := Aside0.mk (Kd.R_below (Kd.R_elderB (by (with_reducible repeat (first | apply Kd.R_alloc | apply Kd.R_drewN | apply Kd.R_drew)); exact HO_8.out) gb364 (Nat.le_of_eq hg.symm)) hb); have n2_ := Aside0.mk (Kd.R_below (Kd.R_elderB (by (with_reducible repeat (first | apply Kd.R_alloc | apply Kd.R_drewN | apply Kd.R_drew)); exact HO_10.out) gb364 (Nat.le_of_eq hg.symm)) hb); have n3_ := Aside0.mk (below_step (by repeat (first | (with_reducible first | exact HB.out | apply below_alloc | apply pw_below_drewN | apply below_drew1) | exact HB.out)) hb); have n4_ := Aside0.mk (hbox); have n5_ := Aside0.mk ((by rw [hg]; exact (below_size (by repeat (first | (with_reducible first | exact HB.out | apply below_alloc | apply pw_below_drewN | apply below_drew1) | exact HB.out))) : w.heap.size ≤ gb364)); have n6_ := Aside0.mk ((by rw [hg]; exact (below_size (by repeat (first | (with_reducible first | exact HB.out | apply below_alloc | apply pw_below_drewN | apply below_drew1) | exact HB.out))) : w.heap.size ≤ gb364)); clear HO_6; clear HO_8; clear HO_10; clear HB; have HO_6 := n0_; have HO_8 := n1_; have HO_10 := n2_; have HB := n3_; have BK364 := n4_; have GW364 := n5_; have GE364 := n6_; clear n0_ n1_ n2_ n3_ n4_ n5_ n6_; clear hb hbox hg; have hcz62_0 : w61.cell? ⟨gb364, 0, none⟩ = some (.int .i64 0) := (blk_cell BK364.out 0).trans rfl; have hcz62_1 : w61.cell? ⟨gb364, 1, none⟩ = some (.int .i64 0) := (blk_cell BK364.out 1).trans rfl; have hcz62_2 : w61.cell? ⟨gb364, 2, none⟩ = some (.int .i64 0) := (blk_cell BK364.out 2).trans rfl; have hcz62_3 : w61.cell? ⟨gb364, 3, none⟩ = some (.string (⟨#[]⟩ : ByteArray)) := (blk_cell BK364.out 3).trans rfl; have hcz62_4 : w61.cell? ⟨gb364, 4, none⟩ = some (.string (⟨#[]⟩ : ByteArray)) := (blk_cell BK364.out 4).trans rfl; have hfz62_0 := blk_frozen BK364.out 0; have hfz62_1 := blk_frozen BK364.out 1; have hfz62_2 := blk_frozen BK364.out 2; have hfz62_3 := blk_frozen BK364.out 3; have hfz62_4 := blk_frozen BK364.out 4; obtain ⟨Ao63, co63, eo63⟩ := Kd.R_slice HO_6.out; subst eo63; obtain ⟨Ao64, co64, eo64⟩ := Kd.R_slice HO_8.out; subst eo64; have p366 : 0 ≤ ((ji51) : Int) := of_decide_eq_true (by first | (with_reducible assumption) | assumption); have q366 : (ji51) < (t353.length : Int) := of_decide_eq_true (by first | (with_reducible assumption) | assumption); obtain ⟨ad366, e366, hx366_0, hx366_1, hx366_2, hx366_3, hx366_4⟩ := at_T46 (Kd.R_reads' HO_8.out).2.2 (ji51) p366 q366; cases e366; have hn366_0 : ad366.block ≠ gb364 := (by first | exact Kd.own_blk (Kd.R_ne HO_8.out BK364.out (by decide)) | exact Kd.own_blk (fun e_ => (HO_8.out.1 _ e_.symm).2 rfl) | exact Kd.own_blk (fun e_ => (HO_8.out.1 _ e_.symm).1.2 rfl)); have hn366_1 : ad366.block ≠ gb364 := (by first | exact Kd.own_blk (Kd.R_ne HO_8.out BK364.out (by decide)) | exact Kd.own_blk (fun e_ => (HO_8.out.1 _ e_.symm).2 rfl) | exact Kd.own_blk (fun e_ => (HO_8.out.1 _ e_.symm).1.2 rfl)); have hn366_2 : ad366.block ≠ gb364 := (by first | exact Kd.own_blk (Kd.R_ne HO_8.out BK364.out (by decide)) | exact Kd.own_blk (fun e_ => (HO_8.out.1 _ e_.symm).2 rfl) | exact Kd.own_blk (fun e_ => (HO_8.out.1 _ e_.symm).1.2 rfl)); have hn366_3 : ad366.block ≠ gb364 := (by first | exact Kd.own_blk (Kd.R_ne HO_8.out BK364.out (by decide)) | exact Kd.own_blk (fun e_ => (HO_8.out.1 _ e_.symm).2 rfl) | exact Kd.own_blk (fun e_ => (HO_8.out.1 _ e_.symm).1.2 rfl)); have hn366_4 : ad366.block ≠ gb364 := (by first | exact Kd.own_blk (Kd.R_ne HO_8.out BK364.out (by decide)) | exact Kd.own_blk (fun e_ => (HO_8.out.1 _ e_.symm).2 rfl) | exact Kd.own_blk (fun e_ => (HO_8.out.1 _ e_.symm).1.2 rfl)); have hn366_5 : ad366.block ≠ gb364 := (by first | exact Kd.own_blk (Kd.R_ne HO_8.out BK364.out (by decide)) | exact Kd.own_blk (fun e_ => (HO_8.out.1 _ e_.symm).2 rfl) | exact Kd.own_blk (fun e_ => (HO_8.out.1 _ e_.symm).1.2 rfl)); have hn366_6 : ad366.block ≠ gb364 := (by first | exact Kd.own_blk (Kd.R_ne HO_8.out BK364.out (by decide)) | exact Kd.own_blk (fun e_ => (HO_8.out.1 _ e_.symm).2 rfl) | exact Kd.own_blk (fun e_ => (HO_8.out.1 _ e_.symm).1.2 rfl)); have hw366_0 := fun (n_ : Nat) => (show (w61.drewN n_).cell? _ = some _ from hx366_0); replace hx366_0 := (cell_far (p := ⟨gb364, 0, none⟩) (by first | (rw [add_block]; exact hn366_0) | (show (Addr.add _ _).block ≠ _; rw [add_block]; exact hn366_0) | exact hn366_0) (.int .i64 ((rd_T46 t359 x12_4).f0))).trans hx366_0; replace hw366_0 := fun (n_ : Nat) => (cell_far (p := ⟨gb364, 0, none⟩) (by first | (rw [add_block]; exact hn366_0) | (show (Addr.add _ _).block ≠ _; rw [add_block]; exact hn366_0) | exact hn366_0) (.int .i64 ((rd_T46 t359 x12_4).f0))).trans (hw366_0 n_); have hw366_1 := fun (n_ : Nat) => (show (w61.drewN n_).cell? _ = some _ from hx366_1); replace hx366_1 := (cell_far (p := ⟨gb364, 0, none⟩) (by first | (rw [add_block]; exact hn366_0) | (show (Addr.add _ _).block ≠ _; rw [add_block]; exact hn366_0) | exact hn366_0) (.int .i64 ((rd_T46 t359 x12_4).f0))).trans hx366_1; replace hw366_1 := fun (n_ : Nat) => (cell_far (p := ⟨gb364, 0, none⟩) (by first | (rw [add_block]; exact hn366_0) | (show (Addr.add _ _).block ≠ _; rw [add_block]; exact hn366_0) | exact hn366_0) (.int .i64 ((rd_T46 t359 x12_4).f0))).trans (hw366_1 n_); have hw366_2 := fun (n_ : Nat) => (show (w61.drewN n_).cell? _ = some _ from hx366_2); replace hx366_2 := (cell_far (p := ⟨gb364, 0, none⟩) (by first | (rw [add_block]; exact hn366_0) | (show (Addr.add _ _).block ≠ _; rw [add_block]; exact hn366_0) | exact hn366_0) (.int .i64 ((rd_T46 t359 x12_4).f0))).trans hx366_2; replace hw366_2 := fun (n_ : Nat) => (cell_far (p := ⟨gb364, 0, none⟩) (by first | (rw [add_block]; exact hn366_0) | (show (Addr.add _ _).block ≠ _; rw [add_block]; exact hn366_0) | exact hn366_0) (.int .i64 ((rd_T46 t359 x12_4).f0))).trans (hw366_2 n_); have hw366_3 := fun (n_ : Nat) => (show (w61.drewN n_).cell? _ = some _ from hx366_3); replace hx366_3 := (cell_far (p := ⟨gb364, 0, none⟩) (by first | (rw [add_block]; exact hn366_0) | (show (Addr.add _ _).block ≠ _; rw [add_block]; exact hn366_0) | exact hn366_0) (.int .i64 ((rd_T46 t359 x12_4).f0))).trans hx366_3; replace hw366_3 := fun (n_ : Nat) => (cell_far (p := ⟨gb364, 0, none⟩) (by first | (rw [add_block]; exact hn366_0) | (show (Addr.add _ _).block ≠ _; rw [add_block]; exact hn366_0) | exact hn366_0) (.int .i64 ((rd_T46 t359 x12_4).f0))).trans (hw366_3 n_); have hw366_4 := fun (n_ : Nat) => (show (w61.drewN n_).cell? _ = some _ from hx366_4); replace hx366_4 := (cell_far (p := ⟨gb364, 0, none⟩) (by first | (rw [add_block]; exact hn366_0) | (show (Addr.add _ _).block ≠ _; rw [add_block]; exact hn366_0) | exact hn366_0) (.int .i64 ((rd_T46 t359 x12_4).f0))).trans hx366_4; replace hw366_4 := fun (n_ : Nat) => (cell_far (p := ⟨gb364, 0, none⟩) (by first | (rw [add_block]; exact hn366_0) | (show (Addr.add _ _).block ≠ _; rw [add_block]; exact hn366_0) | exact hn366_0) (.int .i64 ((rd_T46 t359 x12_4).f0))).trans (hw366_4 n_); replace hx366_0 := (cell_far (p := ⟨gb364, 1, none⟩) (by first | (rw [add_block]; exact hn366_1) | (show (Addr.add _ _).block ≠ _; rw [add_block]; exact hn366_1) | exact hn366_1) (.int .i64 ((rd_T46 t359 x12_4).f1))).trans hx366_0; replace hw366_0 := fun (n_ : Nat) => (cell_far (p := ⟨gb364, 1, none⟩) (by first | (rw [add_block]; exact hn366_1) | (show (Addr.add _ _).block ≠ _; rw [add_block]; exact hn366_1) | exact hn366_1) (.int .i64 ((rd_T46 t359 x12_4).f1))).trans (hw366_0 n_); replace hx366_1 := (cell_far (p := ⟨gb364, 1, none⟩) (by first | (rw [add_block]; exact hn366_1) | (show (Addr.add _ _).block ≠ _; rw [add_block]; exact hn366_1) | exact hn366_1) (.int .i64 ((rd_T46 t359 x12_4).f1))).trans hx366_1; replace hw366_1 := fun (n_ : Nat) => (cell_far (p := ⟨gb364, 1, none⟩) (by first | (rw [add_block]; exact hn366_1) | (show (Addr.add _ _).block ≠ _; rw [add_block]; exact hn366_1) | exact hn366_1) (.int .i64 ((rd_T46 t359 x12_4).f1))).trans (hw366_1 n_); replace hx366_2 := (cell_far (p := ⟨gb364, 1, none⟩) (by first | (rw [add_block]; exact hn366_1) | (show (Addr.add _ _).block ≠ _; rw [add_block]; exact hn366_1) | exact hn366_1) (.int .i64 ((rd_T46 t359 x12_4).f1))).trans hx366_2; replace hw366_2 := fun (n_ : Nat) => (cell_far (p := ⟨gb364, 1, none⟩) (by first | (rw [add_block]; exact hn366_1) | (show (Addr.add _ _).block ≠ _; rw [add_block]; exact hn366_1) | exact hn366_1) (.int .i64 ((rd_T46 t359 x12_4).f1))).trans (hw366_2 n_); replace hx366_3 := (cell_far (p := ⟨gb364, 1, none⟩) (by first | (rw [add_block]; exact hn366_1) | (show (Addr.add _ _).block ≠ _; rw [add_block]; exact hn366_1) | exact hn366_1) (.int .i64 ((rd_T46 t359 x12_4).f1))).trans hx366_3; replace hw366_3 := fun (n_ : Nat) => (cell_far (p := ⟨gb364, 1, none⟩) (by first | (rw [add_block]; exact hn366_1) | (show (Addr.add _ _).block ≠ _; rw [add_block]; exact hn366_1) | exact hn366_1) (.int .i64 ((rd_T46 t359 x12_4).f1))).trans (hw366_3 n_); replace hx366_4 := (cell_far (p := ⟨gb364, 1, none⟩) (by first | (rw [add_block]; exact hn366_1) | (show (Addr.add _ _).block ≠ _; rw [add_block]; exact hn366_1) | exact hn366_1) (.int .i64 ((rd_T46 t359 x12_4).f1))).trans hx366_4; replace hw366_4 := fun (n_ : Nat) => (cell_far (p := ⟨gb364, 1, none⟩) (by first | (rw [add_block]; exact hn366_1) | (show (Addr.add _ _).block ≠ _; rw [add_block]; exact hn366_1) | exact hn366_1) (.int .i64 ((rd_T46 t359 x12_4).f1))).trans (hw366_4 n_); replace hx366_0 := (cell_far (p := ⟨gb364, 2, none⟩) (by first | (rw [add_block]; exact hn366_2) | (show (Addr.add _ _).block ≠ _; rw [add_block]; exact hn366_2) | exact hn366_2) (.int .i64 ((rd_T46 t359 x12_4).f2))).trans hx366_0; replace hw366_0 := fun (n_ : Nat) => (cell_far (p := ⟨gb364, 2, none⟩) (by first | (rw [add_block]; exact hn366_2) | (show (Addr.add _ _).block ≠ _; rw [add_block]; exact hn366_2) | exact hn366_2) (.int .i64 ((rd_T46 t359 x12_4).f2))).trans (hw366_0 n_); replace hx366_1 := (cell_far (p := ⟨gb364, 2, none⟩) (by first | (rw [add_block]; exact hn366_2) | (show (Addr.add _ _).block ≠ _; rw [add_block]; exact hn366_2) | exact hn366_2) (.int .i64 ((rd_T46 t359 x12_4).f2))).trans hx366_1; replace hw366_1 := fun (n_ : Nat) => (cell_far (p := ⟨gb364, 2, none⟩) (by first | (rw [add_block]; exact hn366_2) | (show (Addr.add _ _).block ≠ _; rw [add_block]; exact hn366_2) | exact hn366_2) (.int .i64 ((rd_T46 t359 x12_4).f2))).trans (hw366_1 n_); replace hx366_2 := (cell_far (p := ⟨gb364, 2, none⟩) (by first | (rw [add_block]; exact hn366_2) | (show (Addr.add _ _).block ≠ _; rw [add_block]; exact hn366_2) | exact hn366_2) (.int .i64 ((rd_T46 t359 x12_4).f2))).trans hx366_2; replace hw366_2 := fun (n_ : Nat) => (cell_far (p := ⟨gb364, 2, none⟩) (by first | (rw [add_block]; exact hn366_2) | (show (Addr.add _ _).block ≠ _; rw [add_block]; exact hn366_2) | exact hn366_2) (.int .i64 ((rd_T46 t359 x12_4).f2))).trans (hw366_2 n_); replace hx366_3 := (cell_far (p := ⟨gb364, 2, none⟩) (by first | (rw [add_block]; exact hn366_2) | (show (Addr.add _ _).block ≠ _; rw [add_block]; exact hn366_2) | exact hn366_2) (.int .i64 ((rd_T46 t359 x12_4).f2))).trans hx366_3; replace hw366_3 := fun (n_ : Nat) => (cell_far (p := ⟨gb364, 2, none⟩) (by first | (rw [add_block]; exact hn366_2) | (show (Addr.add _ _).block ≠ _; rw [add_block]; exact hn366_2) | exact hn366_2) (.int .i64 ((rd_T46 t359 x12_4).f2))).trans (hw366_3 n_); replace hx366_4 := (cell_far (p := ⟨gb364, 2, none⟩) (by first | (rw [add_block]; exact hn366_2) | (show (Addr.add _ _).block ≠ _; rw [add_block]; exact hn366_2) | exact hn366_2) (.int .i64 ((rd_T46 t359 x12_4).f2))).trans hx366_4; replace hw366_4 := fun (n_ : Nat) => (cell_far (p := ⟨gb364, 2, none⟩) (by first | (rw [add_block]; exact hn366_2) | (show (Addr.add _ _).block ≠ _; rw [add_block]; exact hn366_2) | exact hn366_2) (.int .i64 ((rd_T46 t359 x12_4).f2))).trans (hw366_4 n_); replace hx366_0 := (cell_far (p := ⟨gb364, 3, none⟩) (by first | (rw [add_block]; exact hn366_3) | (show (Addr.add _ _).block ≠ _; rw [add_block]; exact hn366_3) | exact hn366_3) (.string ((rd_T46 t359 x12_4).f3))).trans hx366_0; replace hw366_0 := fun (n_ : Nat) => (cell_far (p := ⟨gb364, 3, none⟩) (by first | (rw [add_block]; exact hn366_3) | (show (Addr.add _ _).block ≠ _; rw [add_block]; exact hn366_3) | exact hn366_3) (.string ((rd_T46 t359 x12_4).f3))).trans (hw366_0 n_); replace hx366_1 := (cell_far (p := ⟨gb364, 3, none⟩) (by first | (rw [add_block]; exact hn366_3) | (show (Addr.add _ _).block ≠ _; rw [add_block]; exact hn366_3) | exact hn366_3) (.string ((rd_T46 t359 x12_4).f3))).trans hx366_1; replace hw366_1 := fun (n_ : Nat) => (cell_far (p := ⟨gb364, 3, none⟩) (by first | (rw [add_block]; exact hn366_3) | (show (Addr.add _ _).block ≠ _; rw [add_block]; exact hn366_3) | exact hn366_3) (.string ((rd_T46 t359 x12_4).f3))).trans (hw366_1 n_); replace hx366_2 := (cell_far (p := ⟨gb364, 3, none⟩) (by first | (rw [add_block]; exact hn366_3) | (show (Addr.add _ _).block ≠ _; rw [add_block]; exact hn366_3) | exact hn366_3) (.string ((rd_T46 t359 x12_4).f3))).trans hx366_2; replace hw366_2 := fun (n_ : Nat) => (cell_far (p := ⟨gb364, 3, none⟩) (by first | (rw [add_block]; exact hn366_3) | (show (Addr.add _ _).block ≠ _; rw [add_block]; exact hn366_3) | exact hn366_3) (.string ((rd_T46 t359 x12_4).f3))).trans (hw366_2 n_); replace hx366_3 := (cell_far (p := ⟨gb364, 3, none⟩) (by first | (rw [add_block]; exact hn366_3) | (show (Addr.add _ _).block ≠ _; rw [add_block]; exact hn366_3) | exact hn366_3) (.string ((rd_T46 t359 x12_4).f3))).trans hx366_3; replace hw366_3 := fun (n_ : Nat) => (cell_far (p := ⟨gb364, 3, none⟩) (by first | (rw [add_block]; exact hn366_3) | (show (Addr.add _ _).block ≠ _; rw [add_block]; exact hn366_3) | exact hn366_3) (.string ((rd_T46 t359 x12_4).f3))).trans (hw366_3 n_); replace hx366_4 := (cell_far (p := ⟨gb364, 3, none⟩) (by first | (rw [add_block]; exact hn366_3) | (show (Addr.add _ _).block ≠ _; rw [add_block]; exact hn366_3) | exact hn366_3) (.string ((rd_T46 t359 x12_4).f3))).trans hx366_4; replace hw366_4 := fun (n_ : Nat) => (cell_far (p := ⟨gb364, 3, none⟩) (by first | (rw [add_block]; exact hn366_3) | (show (Addr.add _ _).block ≠ _; rw [add_block]; exact hn366_3) | exact hn366_3) (.string ((rd_T46 t359 x12_4).f3))).trans (hw366_4 n_); replace hx366_0 := (cell_far (p := ⟨gb364, 4, none⟩) (by first | (rw [add_block]; exact hn366_4) | (show (Addr.add _ _).block ≠ _; rw [add_block]; exact hn366_4) | exact hn366_4) (.string ((rd_T46 t359 x12_4).f4))).trans hx366_0; replace hw366_0 := fun (n_ : Nat) => (cell_far (p := ⟨gb364, 4, none⟩) (by first | (rw [add_block]; exact hn366_4) | (show (Addr.add _ _).block ≠ _; rw [add_block]; exact hn366_4) | exact hn366_4) (.string ((rd_T46 t359 x12_4).f4))).trans (hw366_0 n_); replace hx366_1 := (cell_far (p := ⟨gb364, 4, none⟩) (by first | (rw [add_block]; exact hn366_4) | (show (Addr.add _ _).block ≠ _; rw [add_block]; exact hn366_4) | exact hn366_4) (.string ((rd_T46 t359 x12_4).f4))).trans hx366_1; replace hw366_1 := fun (n_ : Nat) => (cell_far (p := ⟨gb364, 4, none⟩) (by first | (rw [add_block]; exact hn366_4) | (show (Addr.add _ _).block ≠ _; rw [add_block]; exact hn366_4) | exact hn366_4) (.string ((rd_T46 t359 x12_4).f4))).trans (hw366_1 n_); replace hx366_2 := (cell_far (p := ⟨gb364, 4, none⟩) (by first | (rw [add_block]; exact hn366_4) | (show (Addr.add _ _).block ≠ _; rw [add_block]; exact hn366_4) | exact hn366_4) (.string ((rd_T46 t359 x12_4).f4))).trans hx366_2; replace hw366_2 := fun (n_ : Nat) => (cell_far (p := ⟨gb364, 4, none⟩) (by first | (rw [add_block]; exact hn366_4) | (show (Addr.add _ _).block ≠ _; rw [add_block]; exact hn366_4) | exact hn366_4) (.string ((rd_T46 t359 x12_4).f4))).trans (hw366_2 n_); replace hx366_3 := (cell_far (p := ⟨gb364, 4, none⟩) (by first | (rw [add_block]; exact hn366_4) | (show (Addr.add _ _).block ≠ _; rw [add_block]; exact hn366_4) | exact hn366_4) (.string ((rd_T46 t359 x12_4).f4))).trans hx366_3; replace hw366_3 := fun (n_ : Nat) => (cell_far (p := ⟨gb364, 4, none⟩) (by first | (rw [add_block]; exact hn366_4) | (show (Addr.add _ _).block ≠ _; rw [add_block]; exact hn366_4) | exact hn366_4) (.string ((rd_T46 t359 x12_4).f4))).trans (hw366_3 n_); replace hx366_4 := (cell_far (p := ⟨gb364, 4, none⟩) (by first | (rw [add_block]; exact hn366_4) | (show (Addr.add _ _).block ≠ _; rw [add_block]; exact hn366_4) | exact hn366_4) (.string ((rd_T46 t359 x12_4).f4))).trans hx366_4; replace hw366_4 := fun (n_ : Nat) => (cell_far (p := ⟨gb364, 4, none⟩) (by first | (rw [add_block]; exact hn366_4) | (show (Addr.add _ _).block ≠ _; rw [add_block]; exact hn366_4) | exact hn366_4) (.string ((rd_T46 t359 x12_4).f4))).trans (hw366_4 n_); replace hx366_0 := (cell_far (p := ⟨gb364, 1, none⟩) (by first | (rw [add_block]; exact hn366_5) | (show (Addr.add _ _).block ≠ _; rw [add_block]; exact hn366_5) | exact hn366_5) (.int .i64 (wrap64 (((rd_T46 t359 x12_4).f1) - (t347.size : Int))))).trans hx366_0; replace hw366_0 := fun (n_ : Nat) => (cell_far (p := ⟨gb364, 1, none⟩) (by first | (rw [add_block]; exact hn366_5) | (show (Addr.add _ _).block ≠ _; rw [add_block]; exact hn366_5) | exact hn366_5) (.int .i64 (wrap64 (((rd_T46 t359 x12_4).f1) - (t347.size : Int))))).trans (hw366_0 n_); replace hx366_1 := (cell_far (p := ⟨gb364, 1, none⟩) (by first | (rw [add_block]; exact hn366_5) | (show (Addr.add _ _).block ≠ _; rw [add_block]; exact hn366_5) | exact hn366_5) (.int .i64 (wrap64 (((rd_T46 t359 x12_4).f1) - (t347.size : Int))))).trans hx366_1; replace hw366_1 := fun (n_ : Nat) => (cell_far (p := ⟨gb364, 1, none⟩) (by first | (rw [add_block]; exact hn366_5) | (show (Addr.add _ _).block ≠ _; rw [add_block]; exact hn366_5) | exact hn366_5) (.int .i64 (wrap64 (((rd_T46 t359 x12_4).f1) - (t347.size : Int))))).trans (hw366_1 n_); replace hx366_2 := (cell_far (p := ⟨gb364, 1, none⟩) (by first | (rw [add_block]; exact hn366_5) | (show (Addr.add _ _).block ≠ _; rw [add_block]; exact hn366_5) | exact hn366_5) (.int .i64 (wrap64 (((rd_T46 t359 x12_4).f1) - (t347.size : Int))))).trans hx366_2; replace hw366_2 := fun (n_ : Nat) => (cell_far (p := ⟨gb364, 1, none⟩) (by first | (rw [add_block]; exact hn366_5) | (show (Addr.add _ _).block ≠ _; rw [add_block]; exact hn366_5) | exact hn366_5) (.int .i64 (wrap64 (((rd_T46 t359 x12_4).f1) - (t347.size : Int))))).trans (hw366_2 n_); replace hx366_3 := (cell_far (p := ⟨gb364, 1, none⟩) (by first | (rw [add_block]; exact hn366_5) | (show (Addr.add _ _).block ≠ _; rw [add_block]; exact hn366_5) | exact hn366_5) (.int .i64 (wrap64 (((rd_T46 t359 x12_4).f1) - (t347.size : Int))))).trans hx366_3; replace hw366_3 := fun (n_ : Nat) => (cell_far (p := ⟨gb364, 1, none⟩) (by first | (rw [add_block]; exact hn366_5) | (show (Addr.add _ _).block ≠ _; rw [add_block]; exact hn366_5) | exact hn366_5) (.int .i64 (wrap64 (((rd_T46 t359 x12_4).f1) - (t347.size : Int))))).trans (hw366_3 n_); replace hx366_4 := (cell_far (p := ⟨gb364, 1, none⟩) (by first | (rw [add_block]; exact hn366_5) | (show (Addr.add _ _).block ≠ _; rw [add_block]; exact hn366_5) | exact hn366_5) (.int .i64 (wrap64 (((rd_T46 t359 x12_4).f1) - (t347.size : Int))))).trans hx366_4; replace hw366_4 := fun (n_ : Nat) => (cell_far (p := ⟨gb364, 1, none⟩) (by first | (rw [add_block]; exact hn366_5) | (show (Addr.add _ _).block ≠ _; rw [add_block]; exact hn366_5) | exact hn366_5) (.int .i64 (wrap64 (((rd_T46 t359 x12_4).f1) - (t347.size : Int))))).trans (hw366_4 n_); replace hx366_0 := (cell_far (p := ⟨gb364, 2, none⟩) (by first | (rw [add_block]; exact hn366_6) | (show (Addr.add _ _).block ≠ _; rw [add_block]; exact hn366_6) | exact hn366_6) (.int .i64 (wrap64 (((rd_T46 t359 x12_4).f2) - (t347.size : Int))))).trans hx366_0; replace hw366_0 := fun (n_ : Nat) => (cell_far (p := ⟨gb364, 2, none⟩) (by first | (rw [add_block]; exact hn366_6) | (show (Addr.add _ _).block ≠ _; rw [add_block]; exact hn366_6) | exact hn366_6) (.int .i64 (wrap64 (((rd_T46 t359 x12_4).f2) - (t347.size : Int))))).trans (hw366_0 n_); replace hx366_1 := (cell_far (p := ⟨gb364, 2, none⟩) (by first | (rw [add_block]; exact hn366_6) | (show (Addr.add _ _).block ≠ _; rw [add_block]; exact hn366_6) | exact hn366_6) (.int .i64 (wrap64 (((rd_T46 t359 x12_4).f2) - (t347.size : Int))))).trans hx366_1; replace hw366_1 := fun (n_ : Nat) => (cell_far (p := ⟨gb364, 2, none⟩) (by first | (rw [add_block]; exact hn366_6) | (show (Addr.add _ _).block ≠ _; rw [add_block]; exact hn366_6) | exact hn366_6) (.int .i64 (wrap64 (((rd_T46 t359 x12_4).f2) - (t347.size : Int))))).trans (hw366_1 n_); replace hx366_2 := (cell_far (p := ⟨gb364, 2, none⟩) (by first | (rw [add_block]; exact hn366_6) | (show (Addr.add _ _).block ≠ _; rw [add_block]; exact hn366_6) | exact hn366_6) (.int .i64 (wrap64 (((rd_T46 t359 x12_4).f2) - (t347.size : Int))))).trans hx366_2; replace hw366_2 := fun (n_ : Nat) => (cell_far (p := ⟨gb364, 2, none⟩) (by first | (rw [add_block]; exact hn366_6) | (show (Addr.add _ _).block ≠ _; rw [add_block]; exact hn366_6) | exact hn366_6) (.int .i64 (wrap64 (((rd_T46 t359 x12_4).f2) - (t347.size : Int))))).trans (hw366_2 n_); replace hx366_3 := (cell_far (p := ⟨gb364, 2, none⟩) (by first | (rw [add_block]; exact hn366_6) | (show (Addr.add _ _).block ≠ _; rw [add_block]; exact hn366_6) | exact hn366_6) (.int .i64 (wrap64 (((rd_T46 t359 x12_4).f2) - (t347.size : Int))))).trans hx366_3; replace hw366_3 := fun (n_ : Nat) => (cell_far (p := ⟨gb364, 2, none⟩) (by first | (rw [add_block]; exact hn366_6) | (show (Addr.add _ _).block ≠ _; rw [add_block]; exact hn366_6) | exact hn366_6) (.int .i64 (wrap64 (((rd_T46 t359 x12_4).f2) - (t347.size : Int))))).trans (hw366_3 n_); replace hx366_4 := (cell_far (p := ⟨gb364, 2, none⟩) (by first | (rw [add_block]; exact hn366_6) | (show (Addr.add _ _).block ≠ _; rw [add_block]; exact hn366_6) | exact hn366_6) (.int .i64 (wrap64 (((rd_T46 t359 x12_4).f2) - (t347.size : Int))))).trans hx366_4; replace hw366_4 := fun (n_ : Nat) => (cell_far (p := ⟨gb364, 2, none⟩) (by first | (rw [add_block]; exact hn366_6) | (show (Addr.add _ _).block ≠ _; rw [add_block]; exact hn366_6) | exact hn366_6) (.int .i64 (wrap64 (((rd_T46 t359 x12_4).f2) - (t347.size : Int))))).trans (hw366_4 n_); have hrs_5 : ((((((w61.setCell ⟨gb364, 0, none⟩ (.int .i64 ((rd_T46 t359 x12_4).f0))).setCell ⟨gb364, 1, none⟩ (.int .i64 ((rd_T46 t359 x12_4).f1))).setCell ⟨gb364, 2, none⟩ (.int .i64 ((rd_T46 t359 x12_4).f2))).setCell ⟨gb364, 3, none⟩ (.string ((rd_T46 t359 x12_4).f3))).setCell ⟨gb364, 4, none⟩ (.string ((rd_T46 t359 x12_4).f4))).setCell ⟨gb364, 1, none⟩ (.int .i64 (wrap64 (((rd_T46 t359 x12_4).f1) - (t347.size : Int))))).cell? ⟨gb364, 1, none⟩ = some (.int .i64 (wrap64 (((rd_T46 t359 x12_4).f1) - (t347.size : Int)))) := (blk_cell (blk_set (blk_set (blk_set (blk_set (blk_set (blk_set BK364.out 0 (.int .i64 ((rd_T46 t359 x12_4).f0))) 1 (.int .i64 ((rd_T46 t359 x12_4).f1))) 2 (.int .i64 ((rd_T46 t359 x12_4).f2))) 3 (.string ((rd_T46 t359 x12_4).f3))) 4 (.string ((rd_T46 t359 x12_4).f4))) 1 (.int .i64 (wrap64 (((rd_T46 t359 x12_4).f1) - (t347.size : Int))))) 1).trans rfl; have hrt_5 : ∀ n_ : Nat, (((((((w61.drewN n_).setCell ⟨gb364, 0, none⟩ (.int .i64 ((rd_T46 t359 x12_4).f0))).setCell ⟨gb364, 1, none⟩ (.int .i64 ((rd_T46 t359 x12_4).f1))).setCell ⟨gb364, 2, none⟩ (.int .i64 ((rd_T46 t359 x12_4).f2))).setCell ⟨gb364, 3, none⟩ (.string ((rd_T46 t359 x12_4).f3))).setCell ⟨gb364, 4, none⟩ (.string ((rd_T46 t359 x12_4).f4))).setCell ⟨gb364, 1, none⟩ (.int .i64 (wrap64 (((rd_T46 t359 x12_4).f1) - (t347.size : Int))))).cell? ⟨gb364, 1, none⟩ = some (.int .i64 (wrap64 (((rd_T46 t359 x12_4).f1) - (t347.size : Int)))) := fun n_ => (blk_cell (blk_set (blk_set (blk_set (blk_set (blk_set (blk_set (blk_drewN BK364.out n_) 0 (.int .i64 ((rd_T46 t359 x12_4).f0))) 1 (.int .i64 ((rd_T46 t359 x12_4).f1))) 2 (.int .i64 ((rd_T46 t359 x12_4).f2))) 3 (.string ((rd_T46 t359 x12_4).f3))) 4 (.string ((rd_T46 t359 x12_4).f4))) 1 (.int .i64 (wrap64 (((rd_T46 t359 x12_4).f1) - (t347.size : Int))))) 1).trans rfl; have hrs_6 : (((((((w61.setCell ⟨gb364, 0, none⟩ (.int .i64 ((rd_T46 t359 x12_4).f0))).setCell ⟨gb364, 1, none⟩ (.int .i64 ((rd_T46 t359 x12_4).f1))).setCell ⟨gb364, 2, none⟩ (.int .i64 ((rd_T46 t359 x12_4).f2))).setCell ⟨gb364, 3, none⟩ (.string ((rd_T46 t359 x12_4).f3))).setCell ⟨gb364, 4, none⟩ (.string ((rd_T46 t359 x12_4).f4))).setCell ⟨gb364, 1, none⟩ (.int .i64 (wrap64 (((rd_T46 t359 x12_4).f1) - (t347.size : Int))))).setCell ⟨gb364, 2, none⟩ (.int .i64 (wrap64 (((rd_T46 t359 x12_4).f2) - (t347.size : Int))))).cell? ⟨gb364, 2, none⟩ = some (.int .i64 (wrap64 (((rd_T46 t359 x12_4).f2) - (t347.size : Int)))) := (blk_cell (blk_set (blk_set (blk_set (blk_set (blk_set (blk_set (blk_set BK364.out 0 (.int .i64 ((rd_T46 t359 x12_4).f0))) 1 (.int .i64 ((rd_T46 t359 x12_4).f1))) 2 (.int .i64 ((rd_T46 t359 x12_4).f2))) 3 (.string ((rd_T46 t359 x12_4).f3))) 4 (.string ((rd_T46 t359 x12_4).f4))) 1 (.int .i64 (wrap64 (((rd_T46 t359 x12_4).f1) - (t347.size : Int))))) 2 (.int .i64 (wrap64 (((rd_T46 t359 x12_4).f2) - (t347.size : Int))))) 2).trans rfl; have hrt_6 : ∀ n_ : Nat, ((((((((w61.drewN n_).setCell ⟨gb364, 0, none⟩ (.int .i64 ((rd_T46 t359 x12_4).f0))).setCell ⟨gb364, 1, none⟩ (.int .i64 ((rd_T46 t359 x12_4).f1))).setCell ⟨gb364, 2, none⟩ (.int .i64 ((rd_T46 t359 x12_4).f2))).setCell ⟨gb364, 3, none⟩ (.string ((rd_T46 t359 x12_4).f3))).setCell ⟨gb364, 4, none⟩ (.string ((rd_T46 t359 x12_4).f4))).setCell ⟨gb364, 1, none⟩ (.int .i64 (wrap64 (((rd_T46 t359 x12_4).f1) - (t347.size : Int))))).setCell ⟨gb364, 2, none⟩ (.int .i64 (wrap64 (((rd_T46 t359 x12_4).f2) - (t347.size : Int))))).cell? ⟨gb364, 2, none⟩ = some (.int .i64 (wrap64 (((rd_T46 t359 x12_4).f2) - (t347.size : Int)))) := fun n_ => (blk_cell (blk_set (blk_set (blk_set (blk_set (blk_set (blk_set (blk_set (blk_drewN BK364.out n_) 0 (.int .i64 ((rd_T46 t359 x12_4).f0))) 1 (.int .i64 ((rd_T46 t359 x12_4).f1))) 2 (.int .i64 ((rd_T46 t359 x12_4).f2))) 3 (.string ((rd_T46 t359 x12_4).f3))) 4 (.string ((rd_T46 t359 x12_4).f4))) 1 (.int .i64 (wrap64 (((rd_T46 t359 x12_4).f1) - (t347.size : Int))))) 2 (.int .i64 (wrap64 (((rd_T46 t359 x12_4).f2) - (t347.size : Int))))) 2).trans rfl; have hy366_0 := hw366_0; have hy366_1 := hw366_1; have hy366_2 := hw366_2; have hy366_3 := hw366_3; have hy366_4 := hw366_4; clear hn366_0; clear hn366_1; clear hn366_2; clear hn366_3; clear hn366_4; clear hn366_5; clear hn366_6; replace p366 := eq_true p366; replace q366 := eq_true q366))
                                      repeat (go_quiet (fail); try go_wp2)
                                      go_roundg k4
                                      case measure => have := HJ7.out; have := HJ13.out; have := HJ31.out; have := HK4.out; omega
                                      case rel => exact ⟨(wrap64 (x12_4 + 1)), (by first | rfl | (simp; done) | (simp [*]; done)), H', ⟨by have := HJ7.out; have := HJ13.out; have := HJ31.out; have := HK4.out; omega⟩, ⟨by (with_reducible repeat (first | apply Kd.R_alloc | apply Kd.R_drewN | apply Kd.R_drew)); exact Kd.R_mono (Kd.R_far (p := ⟨gb364, 2, none⟩) (Kd.R_far (p := ⟨gb364, 1, none⟩) (Kd.R_far (p := ⟨gb364, 4, none⟩) (Kd.R_far (p := ⟨gb364, 3, none⟩) (Kd.R_far (p := ⟨gb364, 2, none⟩) (Kd.R_far (p := ⟨gb364, 1, none⟩) (Kd.R_far (p := ⟨gb364, 0, none⟩) (Kd.R_mono HO_6.out (fun k_ hk => (⟨hk, hk.2⟩ : _ ∧ k_ ≠ gb364))) (fun _ hk => hk.2) (.int .i64 ((rd_T46 t359 x12_4).f0))) (fun _ hk => hk.2) (.int .i64 ((rd_T46 t359 x12_4).f1))) (fun _ hk => hk.2) (.int .i64 ((rd_T46 t359 x12_4).f2))) (fun _ hk => hk.2) (.string ((rd_T46 t359 x12_4).f3))) (fun _ hk => hk.2) (.string ((rd_T46 t359 x12_4).f4))) (fun _ hk => hk.2) (.int .i64 (wrap64 (((rd_T46 t359 x12_4).f1) - (t347.size : Int))))) (fun _ hk => hk.2) (.int .i64 (wrap64 (((rd_T46 t359 x12_4).f2) - (t347.size : Int))))) (fun _ hk => ⟨hk.1.1.1, hk.1.1.2⟩)⟩, ⟨by (with_reducible repeat (first | apply Kd.R_alloc | apply Kd.R_drewN | apply Kd.R_drew)); exact Kd.R_mono (Kd.R_far (p := ⟨gb364, 2, none⟩) (Kd.R_far (p := ⟨gb364, 1, none⟩) (Kd.R_far (p := ⟨gb364, 4, none⟩) (Kd.R_far (p := ⟨gb364, 3, none⟩) (Kd.R_far (p := ⟨gb364, 2, none⟩) (Kd.R_far (p := ⟨gb364, 1, none⟩) (Kd.R_far (p := ⟨gb364, 0, none⟩) (Kd.R_mono HO_8.out (fun k_ hk => (⟨hk, hk.2⟩ : _ ∧ k_ ≠ gb364))) (fun _ hk => hk.2) (.int .i64 ((rd_T46 t359 x12_4).f0))) (fun _ hk => hk.2) (.int .i64 ((rd_T46 t359 x12_4).f1))) (fun _ hk => hk.2) (.int .i64 ((rd_T46 t359 x12_4).f2))) (fun _ hk => hk.2) (.string ((rd_T46 t359 x12_4).f3))) (fun _ hk => hk.2) (.string ((rd_T46 t359 x12_4).f4))) (fun _ hk => hk.2) (.int .i64 (wrap64 (((rd_T46 t359 x12_4).f1) - (t347.size : Int))))) (fun _ hk => hk.2) (.int .i64 (wrap64 (((rd_T46 t359 x12_4).f2) - (t347.size : Int))))) (fun _ hk => ⟨hk.1.1.1, hk.1.1.2⟩)⟩, ⟨by (with_reducible repeat (first | apply Kd.R_alloc | apply Kd.R_drewN | apply Kd.R_drew)); exact Kd.R_mono (Kd.R_far (p := ⟨gb364, 2, none⟩) (Kd.R_far (p := ⟨gb364, 1, none⟩) (Kd.R_far (p := ⟨gb364, 4, none⟩) (Kd.R_far (p := ⟨gb364, 3, none⟩) (Kd.R_far (p := ⟨gb364, 2, none⟩) (Kd.R_far (p := ⟨gb364, 1, none⟩) (Kd.R_far (p := ⟨gb364, 0, none⟩) (Kd.R_mono HO_10.out (fun k_ hk => (⟨hk, hk.2⟩ : _ ∧ k_ ≠ gb364))) (fun _ hk => hk.2) (.int .i64 ((rd_T46 t359 x12_4).f0))) (fun _ hk => hk.2) (.int .i64 ((rd_T46 t359 x12_4).f1))) (fun _ hk => hk.2) (.int .i64 ((rd_T46 t359 x12_4).f2))) (fun _ hk => hk.2) (.string ((rd_T46 t359 x12_4).f3))) (fun _ hk => hk.2) (.string ((rd_T46 t359 x12_4).f4))) (fun _ hk => hk.2) (.int .i64 (wrap64 (((rd_T46 t359 x12_4).f1) - (t347.size : Int))))) (fun _ hk => hk.2) (.int .i64 (wrap64 (((rd_T46 t359 x12_4).f2) - (t347.size : Int))))) (fun _ hk => ⟨hk.1.1.1, hk.1.1.2⟩)⟩, ⟨by repeat (first | (with_reducible first | exact HB.out | apply below_alloc | apply pw_below_drewN | apply below_drew1 | refine below_set ?_ GE364.out) | exact HB.out)⟩⟩
                                  · rw [if_neg c53] at H
                                    exact absurd H (by simp)
                                · rw [if_neg c52] at H
                                  exact absurd H (by simp)
                            · rw [if_neg c40] at H
                              exact absurd H (by simp)
                          · rw [if_neg c39] at H
                            have c39b0 : decide (x12_4 < (t359.length : Int)) = false := decide_eq_false c39
                            clear c39
                            obtain rfl := Option.some.inj H
                            obtain ⟨Ao65, co65, eo65⟩ := Kd.R_slice HO_10.out
                            subst eo65
                            go_wp2
                            repeat (go_quiet (fail); try go_wp2)
                            go_ret
                            exact ⟨by first | rfl | (simp [errW_none, errW_some] <;> rfl) | (simp [*, errW_none, errW_some] <;> rfl), by repeat (first | (with_reducible first | exact HB.out | apply below_alloc | apply pw_below_drewN | apply below_drew1) | exact HB.out)⟩
              · rw [if_neg c30] at H
                exact absurd H (by simp)
def topiarylaw12_LexerJoins.Pure : Prop := ∀ (a0 : ByteArray) (a1 : ByteArray), a0.size ≤ 140737488351232 → a1.size ≤ 140737488351232 → ∃ k, topiarylaw12_LexerJoins.f k a0 a1 = some true
theorem topiarylaw12_LexerJoins.walk (P : topiarylaw12_LexerJoins.Pure) (a0 : ByteArray) (a1 : ByteArray) (w : World) (hG : G w) (w0 : a0.size ≤ 140737488351232) (w1 : a1.size ≤ 140737488351232) :
    Calls Try.prog 12 #[.string a0, .string a1] w fun e w' => e = .returned (.bool true) ∧ Below w.heap.size w w' := by
  obtain ⟨k, h⟩ := P a0 a1 w0 w1
  refine (topiarylaw12_LexerJoins.calls k a0 a1 true w hG h).mono ?_
  rintro e w' ⟨rfl, hd⟩
  exact ⟨rfl, hd⟩
end Go.Proofs.Ytekkaoenabjeiaa.Q
end
section
set_option linter.unusedVariables false
set_option linter.unusedSimpArgs false
namespace Go.Proofs.Ytekkaoenabjeiaa.Pure
open Go Go.RowKit Go.Proofs.Ytekkaoenabjeiaa Go.Proofs.Ytekkaoenabjeiaa.Q Go.Proofs.YtekkaoenabjeiaaW.PrintWords Go.Proofs.Ytekkaoenabjeiaa.X Go.Proofs.Ytekkaoenabjeiaa.P11 Go.Proofs.Ytekkaoenabjeiaa.P12
theorem jwr (n : Int) (h0 : -9223372036854775808 ≤ n) (h1 : n ≤ 9223372036854775807) : wrap64 n = n := by unfold wrap64; omega
theorem seg_len (l : List UInt8) : ∀ (r : List Tok) (a b : Int) (x y : Bool), Seg l a x r b y → (r.length : Int) ≤ b - a := by
  intro r
  induction r with
  | nil => intro a b x y h; obtain ⟨rfl, _⟩ := h; simp
  | cons u r ih =>
    intro a b x y h
    obtain ⟨h1, h2, h3, h4, h5, h6⟩ := h
    have := ih _ _ _ _ h6
    rw [List.length_cons]; omega
theorem seg_in (l : List UInt8) : ∀ (r : List Tok) (a b : Int) (x y : Bool), 0 ≤ a → Seg l a x r b y → ∀ t, t ∈ r → 0 ≤ t.f1 ∧ 0 ≤ t.f2 ∧ t.f1 ≤ l.length ∧ t.f2 ≤ l.length := by
  intro r
  induction r with
  | nil => intro a b x y _ h t ht; cases ht
  | cons u r ih =>
    intro a b x y ha h t ht
    obtain ⟨h1, h2, h3, h4, h5, h6⟩ := h
    rcases List.mem_cons.1 ht with rfl | ht
    · omega
    · exact ih _ _ _ _ (by omega) h6 t ht
theorem lexV_ok (s : ByteArray) (h : (lexV s).2 = 0) : s.size ≤ 65536 ∧ validL s.data.toList = true ∧ lexO s = some (lexV s).1 := by
  unfold lexV at h ⊢
  by_cases c : (65536 : Int) < (s.size : Int)
  · rw [if_pos c] at h; cases h
  rw [if_neg c] at h ⊢
  by_cases c' : validL s.data.toList = false
  · rw [if_pos c'] at h; cases h
  rw [if_neg c'] at h ⊢
  cases ho : lexO s with
  | none => rw [ho] at h; cases h
  | some l => exact ⟨by omega, by simpa using c', rfl⟩
theorem lexV_is (s : ByteArray) (l : List Tok) (h1 : s.size ≤ 65536) (h2 : validL s.data.toList = true) (h3 : lexO s = some l) : lexV s = (l, 0) := by
  unfold lexV
  rw [if_neg (by omega), if_neg (by rw [h2]; decide), h3]
theorem rd_left (l m : List Tok) (n : Nat) (h : n < l.length) : rd_T46 (l ++ m) n = rd_T46 l n := by
  unfold rd_T46
  rw [Int.toNat_natCast, List.getD_eq_getElem?_getD, List.getD_eq_getElem?_getD, List.getElem?_append_left h]
theorem rd_right (l m : List Tok) (a : Int) (n : Nat) (h : l.length ≤ n) (h' : n - l.length < m.length) : rd_T46 (l ++ m.map (shT a)) n = shT a (rd_T46 m ((n - l.length : Nat) : Int)) := by
  unfold rd_T46
  rw [Int.toNat_natCast, Int.toNat_natCast, List.getD_eq_getElem?_getD, List.getD_eq_getElem?_getD, List.getElem?_append_right h, List.getElem?_map, List.getElem?_eq_getElem h']
  rfl
theorem rd_mem (m : List Tok) (n : Nat) (h : n < m.length) : rd_T46 m n ∈ m := by
  unfold rd_T46
  rw [Int.toNat_natCast, List.getD_eq_getElem?_getD, List.getElem?_eq_getElem h]
  exact List.getElem_mem h
theorem joins_l0 (a : ByteArray) (ha : a.size ≤ 65536) (l m : List Tok) (hl : l.length ≤ 65536) (hm : m.length ≤ 65536) (hin : ∀ t, t ∈ m → 0 ≤ t.f1 ∧ 0 ≤ t.f2 ∧ t.f1 ≤ 65536 ∧ t.f2 ≤ 65536) (d : Nat) : ∀ (n k : Nat), l.length + m.length - n ≤ d → d + 1 ≤ k →
    topiarylaw12_LexerJoins.l0 k a true l m (l ++ m.map (shT a.size)) n = some true := by
  have hlen : ((l ++ m.map (shT a.size)).length : Int) = l.length + m.length := by rw [List.length_append, List.length_map]; omega
  induction d with
  | zero =>
    intro n k hd hk
    obtain ⟨k, rfl⟩ : ∃ j, k = j + 1 := ⟨k - 1, by omega⟩
    rw [topiarylaw12_LexerJoins.l0, if_neg (by omega)]
  | succ d ih =>
    intro n k hd hk
    obtain ⟨k, rfl⟩ : ∃ j, k = j + 1 := ⟨k - 1, by omega⟩
    by_cases hn : (n : Int) < ((l ++ m.map (shT a.size)).length : Int)
    · rw [topiarylaw12_LexerJoins.l0, if_pos hn, if_pos (by omega), jwr ((n : Int) + 1) (by omega) (by omega), show (n : Int) + 1 = ((n + 1 : Nat) : Int) from by omega, ih (n + 1) k (by omega) (by omega)]
      by_cases hnl : (n : Int) < (l.length : Int)
      · rw [if_pos hnl, rd_left l _ n (by omega), if_neg (by simp)]
      · rw [if_neg hnl, jwr _ (by omega) (by omega), show (n : Int) - (l.length : Int) = ((n - l.length : Nat) : Int) from by omega, if_pos (by omega), if_pos (by omega), rd_right l m _ n (by omega) (by omega)]
        have := hin _ (rd_mem m (n - l.length) (by omega))
        obtain ⟨u, hu⟩ : ∃ u, rd_T46 m ((n - l.length : Nat) : Int) = u := ⟨_, rfl⟩
        rw [hu] at this ⊢
        rw [show (shT (a.size : Int) u).f0 = u.f0 from rfl, show (shT (a.size : Int) u).f1 = (a.size : Int) + u.f1 from rfl, show (shT (a.size : Int) u).f2 = (a.size : Int) + u.f2 from rfl, show (shT (a.size : Int) u).f3 = u.f3 from rfl, show (shT (a.size : Int) u).f4 = u.f4 from rfl,
          jwr _ (by omega) (by omega), jwr _ (by omega) (by omega), show (a.size : Int) + u.f1 - (a.size : Int) = u.f1 from by omega, show (a.size : Int) + u.f2 - (a.size : Int) = u.f2 from by omega, if_neg (by simp)]
    · rw [topiarylaw12_LexerJoins.l0, if_neg hn]
theorem LexerJoins : topiarylaw12_LexerJoins.Pure := by
  intro s1 s2 _ _
  obtain ⟨a, ha, hsa, _⟩ := short12 s1 100
  obtain ⟨b, hb, hsb, _⟩ := short12 s2 100
  rw [show ((100 : Nat) : Int) = 100 from rfl] at ha hb
  refine ⟨1000000 + 4, ?_⟩
  unfold topiarylaw12_LexerJoins.f
  rw [awake12, Option.bind_some, ha, Option.bind_some, hb, Option.bind_some, lexer_Lex.f, if_pos (by omega), Option.bind_some, lexer_Lex.f, if_pos (by omega), Option.bind_some]
  by_cases ea : (lexV a).2 = 0
  rotate_left
  · rw [if_neg ea, topiarylaw12_LexerJoins.j0, if_pos rfl]
  rw [if_pos ea]
  by_cases eb : (lexV b).2 = 0
  rotate_left
  · rw [show ((lexV b).2 != 0) = true from by simpa using eb, topiarylaw12_LexerJoins.j0, if_pos rfl]
  rw [show ((lexV b).2 != 0) = false from by rw [eb]; rfl, topiarylaw12_LexerJoins.j0, if_neg (by decide)]
  obtain ⟨va, wa, oa⟩ := lexV_ok a ea
  obtain ⟨vb, wb, ob⟩ := lexV_ok b eb
  have la := seg_len _ _ _ _ _ _ (lexV_seg a ea)
  have lb := seg_len _ _ _ _ _ _ (lexV_seg b eb)
  have inb := seg_in _ _ _ _ _ _ (by omega) (lexV_seg b eb)
  obtain ⟨l, hl⟩ : ∃ l, (lexV a).1 = l := ⟨_, rfl⟩
  obtain ⟨m, hm⟩ : ∃ m, (lexV b).1 = m := ⟨_, rfl⟩
  rw [hl] at oa la ⊢
  rw [hm] at ob lb inb ⊢
  have hin : ∀ t, t ∈ m → 0 ≤ t.f1 ∧ 0 ≤ t.f2 ∧ t.f1 ≤ 65536 ∧ t.f2 ≤ 65536 := by
    intro t ht
    have := inb t ht
    rw [← Lib.size_eq] at this
    omega
  have hv : validL (a ++ b).data.toList = true := by rw [app_list, valid_append _ _ wa, wb]
  have hsz : (a ++ b).size ≤ 65536 := by rw [app_size]; omega
  have hmain : lexV (a ++ b) = (l ++ m.map (shT a.size), 0) → topiarylaw12_LexerJoins.j1 1000003 a b true l m false = some true := by
    intro hj
    rw [topiarylaw12_LexerJoins.j1, if_neg (by decide), if_pos (by omega), lexer_Lex.f, if_pos (by omega), Option.bind_some, hj, if_pos rfl]
    have : (((l ++ m.map (shT a.size)).length : Int) != wrap64 ((l.length : Int) + (m.length : Int))) = false := by
      rw [jwr _ (by omega) (by omega), List.length_append, List.length_map]
      simp
    simp only [this]
    rw [topiarylaw12_LexerJoins.j2, if_neg (by decide)]
    exact joins_l0 a (by omega) l m (by omega) (by omega) hin 1000 0 1000001 (by omega) (by omega)
  by_cases cl : l = []
  · subst cl
    rw [if_neg (by simp)]
    refine hmain ?_
    have hz : a.size = 0 := by
      have := lexV_seg a ea
      rw [hl] at this
      have := this.1
      omega
    exact lexV_is _ _ hsz hv (lexO_app a b [] m oa ob (fun t ht => by cases ht))
  have hlp : 0 < l.length := by
    cases l with
    | nil => exact absurd rfl cl
    | cons => simp
  by_cases cm : m = []
  · subst cm
    rw [if_pos (by omega), if_neg (by simp)]
    refine hmain ?_
    have hz : b.size = 0 := by
      have := lexV_seg b eb
      rw [hm] at this
      have := this.1
      omega
    have hab : a ++ b = a := by
      apply ByteArray.ext; apply Array.ext'
      rw [app_list]
      have : b.data.toList = [] := List.eq_nil_of_length_eq_zero (by rw [← Lib.size_eq]; exact hz)
      rw [this, List.append_nil]
    rw [hab, List.map_nil, List.append_nil]
    exact lexV_is _ _ (by omega) wa oa
  have hmp : 0 < m.length := by
    cases m with
    | nil => exact absurd rfl cm
    | cons => simp
  rw [if_pos (by omega), if_pos (by omega), jwr _ (by omega) (by omega), if_pos (by omega), if_pos (by omega)]
  by_cases c6 : (rd_T46 l ((l.length : Int) - 1)).f0 = 6
  · rw [if_pos c6, topiarylaw12_LexerJoins.j1, if_pos rfl]
  rw [if_neg c6, if_pos (by omega)]
  by_cases c7 : ((rd_T46 m 0).f0 == 6) = true
  · rw [c7, topiarylaw12_LexerJoins.j1, if_pos rfl]
  rw [show ((rd_T46 m 0).f0 == 6) = false from by simpa using c7]
  refine hmain (lexV_is _ _ hsz hv (lexO_app a b l m oa ob ?_))
  intro t ht h6
  apply c6
  obtain ⟨pre, hp⟩ := List.getLast?_eq_some_iff.1 ht
  subst hp
  unfold rd_T46
  rw [List.length_append, List.length_singleton, show (((pre.length + 1 : Nat) : Int) - 1).toNat = pre.length from by omega, List.getD_eq_getElem?_getD]
  simp [h6]
end Go.Proofs.Ytekkaoenabjeiaa.Pure
end
