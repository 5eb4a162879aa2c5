/- Parts of the proof of lexerPieces_holds, kept and merged by a program of mine (wip/tools/slim.py) out of my texts: Q25 P12a P12b P12c P12d P12e P12f PureLexerPieces -/
import Derived.Lib.IndexMore
import Derived.Test.YtekkaoenabjeiaaSLexerPieces4
import Derived.Test.YtekkaoenabjeiaaSLexerPieces19
import Derived.Test.YtekkaoenabjeiaaSLexerPieces20
import Derived.Test.YtekkaoenabjeiaaSLexerPieces5
import Derived.Test.YtekkaoenabjeiaaSLexerPieces11
import Derived.Test.YtekkaoenabjeiaaSLexerPieces18
import Derived.Test.YtekkaoenabjeiaaSLexerPieces9
import Derived.Test.YtekkaoenabjeiaaSLexerPieces14
section
namespace Go.Proofs.Ytekkaoenabjeiaa.X
end Go.Proofs.Ytekkaoenabjeiaa.X
namespace Go.Proofs.Ytekkaoenabjeiaa.Q
open Go.RowKit Go.Proofs.YtekkaoenabjeiaaW.PrintWords Go.Proofs.YtekkaoenabjeiaaW.PrintLast Go.Proofs.YtekkaoenabjeiaaW.PrintMore
attribute [local go_sem] max2_int min2_int max_two min_two max_three min_three max_four min_four   
open Go.Proofs.Ytekkaoenabjeiaa.X
set_option linter.unusedVariables false
set_option linter.unusedSimpArgs false
def topiarylaw12_LexerPieces.f (k : Nat) (a0 : ByteArray) : Option (Bool) := (topiarylaw12_awake.f).bind fun t326 => ((topiarylaw12_short.f a0 200).bind fun t327 => ((lexer_Lex.f t327).bind fun bt328 => ((topiaryref12_Lex.f k t327).bind fun bt332 => ((topiaryref12_Same.f k bt328.1 bt332.1).bind fun t336 => (if t326 = true then (if t336 = true then (some (bt328.2 == bt332.2)) else (some false)) else (some false))))))
theorem topiarylaw12_LexerPieces.mono : ∀ a0 k, LeO (topiarylaw12_LexerPieces.f k a0) (topiarylaw12_LexerPieces.f (k + 1) a0) := by
  intro a0 k
  unfold topiarylaw12_LexerPieces.f
  repeat' first
      | (with_reducible exact topiaryref12_Lex.mono _ _)
      | (with_reducible exact topiaryref12_Same.mono _ _ _)
      | (with_reducible exact LeO.refl _)
      | (with_reducible exact LeO.none _)
      | (with_reducible refine LeO.ite ?_ ?_)
      | (with_reducible refine LeO.bind ?_ (fun _ => ?_))
      | exact topiaryref12_Lex.mono _ _
      | exact topiaryref12_Same.mono _ _ _
      | exact LeO.none _
      | refine LeO.ite ?_ ?_
      | refine LeO.bind ?_ (fun _ => ?_)
set_option maxHeartbeats 8000000 in
set_option maxRecDepth 100000 in
theorem topiarylaw12_LexerPieces.calls (k : Nat) (a0 : ByteArray) (r : Bool) (w : World) (hG : G w) (h : topiarylaw12_LexerPieces.f k a0 = some r) :
    Calls Try.prog 10 #[.string a0] w fun e w' => e = .returned (.bool r) ∧ Below w.heap.size w w' := by
  have HB := Aside0.mk (Below.refl w.heap.size w)
  have H : ((topiarylaw12_awake.f).bind fun t326 => ((topiarylaw12_short.f a0 200).bind fun t327 => ((lexer_Lex.f t327).bind fun bt328 => ((topiaryref12_Lex.f k t327).bind fun bt332 => ((topiaryref12_Same.f k bt328.1 bt332.1).bind fun t336 => (if t326 = true then (if t336 = true then (some (bt328.2 == bt332.2)) else (some false)) else (some false))))))) = some r := h
  clear h
  replace H := Option.bind_eq_some_iff.mp H
  obtain ⟨t326, A20, H⟩ := H
  replace H : ((topiarylaw12_short.f a0 200).bind fun t327 => ((lexer_Lex.f t327).bind fun bt328 => ((topiaryref12_Lex.f k t327).bind fun bt332 => ((topiaryref12_Same.f k bt328.1 bt332.1).bind fun t336 => (if t326 = true then (if t336 = true then (some (bt328.2 == bt332.2)) else (some false)) else (some false)))))) = some r := H
  have A2 := Aside0.mk A20
  clear A20
  replace H := Option.bind_eq_some_iff.mp H
  obtain ⟨t327, A30, H⟩ := H
  replace H : ((lexer_Lex.f t327).bind fun bt328 => ((topiaryref12_Lex.f k t327).bind fun bt332 => ((topiaryref12_Same.f k bt328.1 bt332.1).bind fun t336 => (if t326 = true then (if t336 = true then (some (bt328.2 == bt332.2)) else (some false)) else (some false))))) = some r := H
  have A3 := Aside0.mk A30
  clear A30
  replace H := Option.bind_eq_some_iff.mp H
  obtain ⟨⟨t328, t329⟩, A40, H⟩ := H
  replace H : ((topiaryref12_Lex.f k t327).bind fun bt332 => ((topiaryref12_Same.f k t328 bt332.1).bind fun t336 => (if t326 = true then (if t336 = true then (some (t329 == bt332.2)) else (some false)) else (some false)))) = some r := H
  have A4 := Aside0.mk A40
  clear A40
  replace H := Option.bind_eq_some_iff.mp H
  obtain ⟨⟨t332, t333⟩, A50, H⟩ := H
  replace H : ((topiaryref12_Same.f k t328 t332).bind fun t336 => (if t326 = true then (if t336 = true then (some (t329 == t333)) else (some false)) else (some false))) = some r := H
  have A5 := Aside0.mk A50
  clear A50
  replace H := Option.bind_eq_some_iff.mp H
  obtain ⟨t336, A60, H⟩ := H
  replace H : (if t326 = true then (if t336 = true then (some (t329 == t333)) else (some false)) else (some false)) = some r := H
  have A6 := Aside0.mk A60
  clear A60
  by_cases c7 : t326 = true
  · subst c7
    have H1 : (if t336 = true then (some (t329 == t333)) else (some false)) = some r := by rw [if_pos rfl] at H; exact H
    clear H
    have H := H1
    clear H1
    by_cases c8 : t336 = true
    · subst c8
      have H1 : (some (t329 == t333)) = some r := by rw [if_pos rfl] at H; exact H
      clear H
      have H := H1
      clear H1
      obtain rfl := Option.some.inj H
      go_enter Try.func10, Try.ntmps10
      go_wp2_with (first | ((with_reducible refine gate_callee (f := 37) rfl ?_); refine goesL_ (some 9) rfl rfl Try.func37 (by kernel_rfl) rfl #[] rfl (by (try simp only [List.map_toArray, List.map_cons, List.map_nil]); first | done | rfl | (simp only [List.length_drop, List.length_take]; rfl)) ?_; (with_reducible refine (topiarylaw12_awake.calls  true _ (by first | exact hG | exact G.below hG (by repeat (first | (with_reducible first | exact HB.out | apply below_alloc | apply pw_below_drewN | apply below_drew1) | exact HB.out))) A2.out).mono ?_); rintro e w9 ⟨rfl, hb⟩; refine ⟨_, rfl, ?_⟩; have n0_ := Aside0.mk (below_step (by repeat (first | (with_reducible first | exact HB.out | apply below_alloc | apply pw_below_drewN | apply below_drew1) | exact HB.out)) hb); clear HB; have HB := n0_; clear n0_; (try clear hb); (try clear hb2); (try clear hk); (try clear hi)) | ((with_reducible refine gate_callee (f := 38) rfl ?_); refine goesL_ (some 11) rfl rfl Try.func38 (by kernel_rfl) rfl #[.string a0, .int .i64 200] rfl (by (try simp only [List.map_toArray, List.map_cons, List.map_nil]); first | done | rfl | (simp only [List.length_drop, List.length_take]; rfl)) ?_; (with_reducible refine (topiarylaw12_short.calls a0 200 t327 _ A3.out).mono ?_); rintro e w' ⟨rfl, ⟨nd, rfl⟩⟩; refine ⟨_, rfl, ?_⟩) | ((with_reducible refine gate_callee (f := 39) rfl ?_); refine goesL_ (some 14) rfl rfl Try.func39 (by kernel_rfl) rfl #[.string t327] rfl (by (try simp only [List.map_toArray, List.map_cons, List.map_nil]); first | done | rfl | (simp only [List.length_drop, List.length_take]; rfl)) ?_; (with_reducible refine (lexer_Lex.calls t327 t328 t329 _ (by first | exact hG | exact G.below hG (by repeat (first | (with_reducible first | exact HB.out | apply below_alloc | apply pw_below_drewN | apply below_drew1) | exact HB.out))) A4.out).mono ?_); rintro e w10 ⟨v330, rfl, ho0, hb⟩; refine ⟨_, rfl, ?_⟩; have n0_ := Aside0.mk (Kd.R_lower ho0 (below_size (by repeat (first | (with_reducible first | exact HB.out | apply below_alloc | apply pw_below_drewN | apply below_drew1) | exact HB.out)))); have n1_ := Aside0.mk (below_step (by repeat (first | (with_reducible first | exact HB.out | apply below_alloc | apply pw_below_drewN | apply below_drew1) | exact HB.out)) hb); clear HB; have HO331 := n0_; have HB := n1_; clear n0_ n1_; (try clear hb); (try clear hb2); (try clear hk); (try clear hi); (try clear ho0)) | ((with_reducible refine gate_callee (f := 40) rfl ?_); refine goesL_ (some 19) rfl rfl Try.func40 (by kernel_rfl) rfl #[.string t327] rfl (by (try simp only [List.map_toArray, List.map_cons, List.map_nil]); first | done | rfl | (simp only [List.length_drop, List.length_take]; rfl)) ?_; (with_reducible refine (topiaryref12_Lex.calls k t327 t332 t333 _ A5.out).mono ?_); rintro e w11 ⟨v334, rfl, ho0, hb⟩; refine ⟨_, rfl, ?_⟩; have n0_ := Aside0.mk (Kd.R_elder' (by (with_reducible repeat (first | apply Kd.R_alloc | apply Kd.R_drewN | apply Kd.R_drew)); exact HO331.out) (Kd.R_base ho0) hb); have n1_ := Aside0.mk (Kd.R_lower (Kd.R_new' ho0 (Kd.R_lt (by (with_reducible repeat (first | apply Kd.R_alloc | apply Kd.R_drewN | apply Kd.R_drew)); exact HO331.out))) (below_size (by repeat (first | (with_reducible first | exact HB.out | apply below_alloc | apply pw_below_drewN | apply below_drew1) | exact HB.out)))); have n2_ := Aside0.mk (below_step (by repeat (first | (with_reducible first | exact HB.out | apply below_alloc | apply pw_below_drewN | apply below_drew1) | exact HB.out)) hb); clear HO331; clear HB; have HO331 := n0_; have HO335 := n1_; have HB := n2_; clear n0_ n1_ n2_; (try clear hb); (try clear hb2); (try clear hk); (try clear hi); (try clear ho0); obtain ⟨Ao12, co12, eo12⟩ := Kd.R_slice HO331.out; subst eo12; obtain ⟨Ao13, co13, eo13⟩ := Kd.R_slice HO335.out; subst eo13) | ((with_reducible refine gate_callee (f := 41) rfl ?_); refine goesL_ (some 24) rfl rfl Try.func41 (by kernel_rfl) rfl #[.slice Ao12 t328.length co12, .slice Ao13 t332.length co13] rfl (by (try simp only [List.map_toArray, List.map_cons, List.map_nil]); first | done | rfl | (simp only [List.length_drop, List.length_take]; rfl)) ?_; (with_reducible refine (topiaryref12_Same.calls k _ _ t328 _ _ t332 true _ ?side1 ?side2 ?side3 ?side4 A6.out).mono ?_); (case side1 => repeat (first | exact (Kd.R_reads' HO331.out).2.2 | (with_reducible refine Kd.C_alloc ?_ _) | (with_reducible refine Kd.C_drewN ?_ _) | (with_reducible refine Kd.C_drew ?_))); (case side2 => exact (Kd.R_reads' HO331.out).2.1); (case side3 => repeat (first | exact (Kd.R_reads' HO335.out).2.2 | (with_reducible refine Kd.C_alloc ?_ _) | (with_reducible refine Kd.C_drewN ?_ _) | (with_reducible refine Kd.C_drew ?_))); (case side4 => exact (Kd.R_reads' HO335.out).2.1); rintro e w' ⟨rfl, ⟨nd, rfl⟩⟩; refine ⟨_, rfl, ?_⟩))
      go_ret
      exact ⟨by first | rfl | (simp [errW_none, errW_some] <;> rfl) | (simp [*, errW_none, errW_some] <;> rfl), by repeat (first | (with_reducible first | exact HB.out | apply below_alloc | apply pw_below_drewN | apply below_drew1) | exact HB.out)⟩
    · replace c8 := Bool.eq_false_iff.mpr c8
      subst c8
      have H1 : (some false) = some r := by rw [if_neg (show ¬ (false = true) by decide)] at H; exact H
      clear H
      have H := H1
      clear H1
      obtain rfl := Option.some.inj H
      go_enter Try.func10, Try.ntmps10
      go_wp2_with (first | ((with_reducible refine gate_callee (f := 37) rfl ?_); refine goesL_ (some 9) rfl rfl Try.func37 (by kernel_rfl) rfl #[] rfl (by (try simp only [List.map_toArray, List.map_cons, List.map_nil]); first | done | rfl | (simp only [List.length_drop, List.length_take]; rfl)) ?_; (with_reducible refine (topiarylaw12_awake.calls  true _ (by first | exact hG | exact G.below hG (by repeat (first | (with_reducible first | exact HB.out | apply below_alloc | apply pw_below_drewN | apply below_drew1) | exact HB.out))) A2.out).mono ?_); rintro e w14 ⟨rfl, hb⟩; refine ⟨_, rfl, ?_⟩; have n0_ := Aside0.mk (below_step (by repeat (first | (with_reducible first | exact HB.out | apply below_alloc | apply pw_below_drewN | apply below_drew1) | exact HB.out)) hb); clear HB; have HB := n0_; clear n0_; (try clear hb); (try clear hb2); (try clear hk); (try clear hi)) | ((with_reducible refine gate_callee (f := 38) rfl ?_); refine goesL_ (some 11) rfl rfl Try.func38 (by kernel_rfl) rfl #[.string a0, .int .i64 200] rfl (by (try simp only [List.map_toArray, List.map_cons, List.map_nil]); first | done | rfl | (simp only [List.length_drop, List.length_take]; rfl)) ?_; (with_reducible refine (topiarylaw12_short.calls a0 200 t327 _ A3.out).mono ?_); rintro e w' ⟨rfl, ⟨nd, rfl⟩⟩; refine ⟨_, rfl, ?_⟩) | ((with_reducible refine gate_callee (f := 39) rfl ?_); refine goesL_ (some 14) rfl rfl Try.func39 (by kernel_rfl) rfl #[.string t327] rfl (by (try simp only [List.map_toArray, List.map_cons, List.map_nil]); first | done | rfl | (simp only [List.length_drop, List.length_take]; rfl)) ?_; (with_reducible refine (lexer_Lex.calls t327 t328 t329 _ (by first | exact hG | exact G.below hG (by repeat (first | (with_reducible first | exact HB.out | apply below_alloc | apply pw_below_drewN | apply below_drew1) | exact HB.out))) A4.out).mono ?_); rintro e w15 ⟨v330, rfl, ho0, hb⟩; refine ⟨_, rfl, ?_⟩; have n0_ := Aside0.mk (Kd.R_lower ho0 (below_size (by repeat (first | (with_reducible first | exact HB.out | apply below_alloc | apply pw_below_drewN | apply below_drew1) | exact HB.out)))); have n1_ := Aside0.mk (below_step (by repeat (first | (with_reducible first | exact HB.out | apply below_alloc | apply pw_below_drewN | apply below_drew1) | exact HB.out)) hb); clear HB; have HO331 := n0_; have HB := n1_; clear n0_ n1_; (try clear hb); (try clear hb2); (try clear hk); (try clear hi); (try clear ho0)) | ((with_reducible refine gate_callee (f := 40) rfl ?_); refine goesL_ (some 19) rfl rfl Try.func40 (by kernel_rfl) rfl #[.string t327] rfl (by (try simp only [List.map_toArray, List.map_cons, List.map_nil]); first | done | rfl | (simp only [List.length_drop, List.length_take]; rfl)) ?_; (with_reducible refine (topiaryref12_Lex.calls k t327 t332 t333 _ A5.out).mono ?_); rintro e w16 ⟨v334, rfl, ho0, hb⟩; refine ⟨_, rfl, ?_⟩; have n0_ := Aside0.mk (Kd.R_elder' (by (with_reducible repeat (first | apply Kd.R_alloc | apply Kd.R_drewN | apply Kd.R_drew)); exact HO331.out) (Kd.R_base ho0) hb); have n1_ := Aside0.mk (Kd.R_lower (Kd.R_new' ho0 (Kd.R_lt (by (with_reducible repeat (first | apply Kd.R_alloc | apply Kd.R_drewN | apply Kd.R_drew)); exact HO331.out))) (below_size (by repeat (first | (with_reducible first | exact HB.out | apply below_alloc | apply pw_below_drewN | apply below_drew1) | exact HB.out)))); have n2_ := Aside0.mk (below_step (by repeat (first | (with_reducible first | exact HB.out | apply below_alloc | apply pw_below_drewN | apply below_drew1) | exact HB.out)) hb); clear HO331; clear HB; have HO331 := n0_; have HO335 := n1_; have HB := n2_; clear n0_ n1_ n2_; (try clear hb); (try clear hb2); (try clear hk); (try clear hi); (try clear ho0); obtain ⟨Ao17, co17, eo17⟩ := Kd.R_slice HO331.out; subst eo17; obtain ⟨Ao18, co18, eo18⟩ := Kd.R_slice HO335.out; subst eo18) | ((with_reducible refine gate_callee (f := 41) rfl ?_); refine goesL_ (some 24) rfl rfl Try.func41 (by kernel_rfl) rfl #[.slice Ao17 t328.length co17, .slice Ao18 t332.length co18] rfl (by (try simp only [List.map_toArray, List.map_cons, List.map_nil]); first | done | rfl | (simp only [List.length_drop, List.length_take]; rfl)) ?_; (with_reducible refine (topiaryref12_Same.calls k _ _ t328 _ _ t332 false _ ?side1 ?side2 ?side3 ?side4 A6.out).mono ?_); (case side1 => repeat (first | exact (Kd.R_reads' HO331.out).2.2 | (with_reducible refine Kd.C_alloc ?_ _) | (with_reducible refine Kd.C_drewN ?_ _) | (with_reducible refine Kd.C_drew ?_))); (case side2 => exact (Kd.R_reads' HO331.out).2.1); (case side3 => repeat (first | exact (Kd.R_reads' HO335.out).2.2 | (with_reducible refine Kd.C_alloc ?_ _) | (with_reducible refine Kd.C_drewN ?_ _) | (with_reducible refine Kd.C_drew ?_))); (case side4 => exact (Kd.R_reads' HO335.out).2.1); rintro e w' ⟨rfl, ⟨nd, rfl⟩⟩; refine ⟨_, rfl, ?_⟩))
      go_ret
      exact ⟨by first | rfl | (simp [errW_none, errW_some] <;> rfl) | (simp [*, errW_none, errW_some] <;> rfl), by repeat (first | (with_reducible first | exact HB.out | apply below_alloc | apply pw_below_drewN | apply below_drew1) | exact HB.out)⟩
  · replace c7 := Bool.eq_false_iff.mpr c7
    subst c7
    have H1 : (some false) = some r := by rw [if_neg (show ¬ (false = true) by decide)] at H; exact H
    clear H
    have H := H1
    clear H1
    obtain rfl := Option.some.inj H
    go_enter Try.func10, Try.ntmps10
    go_wp2_with (first | ((with_reducible refine gate_callee (f := 37) rfl ?_); refine goesL_ (some 9) rfl rfl Try.func37 (by kernel_rfl) rfl #[] rfl (by (try simp only [List.map_toArray, List.map_cons, List.map_nil]); first | done | rfl | (simp only [List.length_drop, List.length_take]; rfl)) ?_; (with_reducible refine (topiarylaw12_awake.calls  false _ (by first | exact hG | exact G.below hG (by repeat (first | (with_reducible first | exact HB.out | apply below_alloc | apply pw_below_drewN | apply below_drew1) | exact HB.out))) A2.out).mono ?_); rintro e w19 ⟨rfl, hb⟩; refine ⟨_, rfl, ?_⟩; have n0_ := Aside0.mk (below_step (by repeat (first | (with_reducible first | exact HB.out | apply below_alloc | apply pw_below_drewN | apply below_drew1) | exact HB.out)) hb); clear HB; have HB := n0_; clear n0_; (try clear hb); (try clear hb2); (try clear hk); (try clear hi)) | ((with_reducible refine gate_callee (f := 38) rfl ?_); refine goesL_ (some 11) rfl rfl Try.func38 (by kernel_rfl) rfl #[.string a0, .int .i64 200] rfl (by (try simp only [List.map_toArray, List.map_cons, List.map_nil]); first | done | rfl | (simp only [List.length_drop, List.length_take]; rfl)) ?_; (with_reducible refine (topiarylaw12_short.calls a0 200 t327 _ A3.out).mono ?_); rintro e w' ⟨rfl, ⟨nd, rfl⟩⟩; refine ⟨_, rfl, ?_⟩) | ((with_reducible refine gate_callee (f := 39) rfl ?_); refine goesL_ (some 14) rfl rfl Try.func39 (by kernel_rfl) rfl #[.string t327] rfl (by (try simp only [List.map_toArray, List.map_cons, List.map_nil]); first | done | rfl | (simp only [List.length_drop, List.length_take]; rfl)) ?_; (with_reducible refine (lexer_Lex.calls t327 t328 t329 _ (by first | exact hG | exact G.below hG (by repeat (first | (with_reducible first | exact HB.out | apply below_alloc | apply pw_below_drewN | apply below_drew1) | exact HB.out))) A4.out).mono ?_); rintro e w20 ⟨v330, rfl, ho0, hb⟩; refine ⟨_, rfl, ?_⟩; have n0_ := Aside0.mk (Kd.R_lower ho0 (below_size (by repeat (first | (with_reducible first | exact HB.out | apply below_alloc | apply pw_below_drewN | apply below_drew1) | exact HB.out)))); have n1_ := Aside0.mk (below_step (by repeat (first | (with_reducible first | exact HB.out | apply below_alloc | apply pw_below_drewN | apply below_drew1) | exact HB.out)) hb); clear HB; have HO331 := n0_; have HB := n1_; clear n0_ n1_; (try clear hb); (try clear hb2); (try clear hk); (try clear hi); (try clear ho0)) | ((with_reducible refine gate_callee (f := 40) rfl ?_); refine goesL_ (some 19) rfl rfl Try.func40 (by kernel_rfl) rfl #[.string t327] rfl (by (try simp only [List.map_toArray, List.map_cons, List.map_nil]); first | done | rfl | (simp only [List.length_drop, List.length_take]; rfl)) ?_; (with_reducible refine (topiaryref12_Lex.calls k t327 t332 t333 _ A5.out).mono ?_); rintro e w21 ⟨v334, rfl, ho0, hb⟩; refine ⟨_, rfl, ?_⟩; have n0_ := Aside0.mk (Kd.R_elder' (by (with_reducible repeat (first | apply Kd.R_alloc | apply Kd.R_drewN | apply Kd.R_drew)); exact HO331.out) (Kd.R_base ho0) hb); have n1_ := Aside0.mk (Kd.R_lower (Kd.R_new' ho0 (Kd.R_lt (by (with_reducible repeat (first | apply Kd.R_alloc | apply Kd.R_drewN | apply Kd.R_drew)); exact HO331.out))) (below_size (by repeat (first | (with_reducible first | exact HB.out | apply below_alloc | apply pw_below_drewN | apply below_drew1) | exact HB.out)))); have n2_ := Aside0.mk (below_step (by repeat (first | (with_reducible first | exact HB.out | apply below_alloc | apply pw_below_drewN | apply below_drew1) | exact HB.out)) hb); clear HO331; clear HB; have HO331 := n0_; have HO335 := n1_; have HB := n2_; clear n0_ n1_ n2_; (try clear hb); (try clear hb2); (try clear hk); (try clear hi); (try clear ho0); obtain ⟨Ao22, co22, eo22⟩ := Kd.R_slice HO331.out; subst eo22; obtain ⟨Ao23, co23, eo23⟩ := Kd.R_slice HO335.out; subst eo23) | ((with_reducible refine gate_callee (f := 41) rfl ?_); refine goesL_ (some 24) rfl rfl Try.func41 (by kernel_rfl) rfl #[.slice Ao22 t328.length co22, .slice Ao23 t332.length co23] rfl (by (try simp only [List.map_toArray, List.map_cons, List.map_nil]); first | done | rfl | (simp only [List.length_drop, List.length_take]; rfl)) ?_; (with_reducible refine (topiaryref12_Same.calls k _ _ t328 _ _ t332 t336 _ ?side1 ?side2 ?side3 ?side4 A6.out).mono ?_); (case side1 => repeat (first | exact (Kd.R_reads' HO331.out).2.2 | (with_reducible refine Kd.C_alloc ?_ _) | (with_reducible refine Kd.C_drewN ?_ _) | (with_reducible refine Kd.C_drew ?_))); (case side2 => exact (Kd.R_reads' HO331.out).2.1); (case side3 => repeat (first | exact (Kd.R_reads' HO335.out).2.2 | (with_reducible refine Kd.C_alloc ?_ _) | (with_reducible refine Kd.C_drewN ?_ _) | (with_reducible refine Kd.C_drew ?_))); (case side4 => exact (Kd.R_reads' HO335.out).2.1); rintro e w' ⟨rfl, ⟨nd, rfl⟩⟩; refine ⟨_, rfl, ?_⟩))
    go_ret
    exact ⟨by first | rfl | (simp [errW_none, errW_some] <;> rfl) | (simp [*, errW_none, errW_some] <;> rfl), by repeat (first | (with_reducible first | exact HB.out | apply below_alloc | apply pw_below_drewN | apply below_drew1) | exact HB.out)⟩
def topiarylaw12_LexerPieces.Pure : Prop := ∀ (a0 : ByteArray), a0.size ≤ 140737488351232 → ∃ k, topiarylaw12_LexerPieces.f k a0 = some true
theorem topiarylaw12_LexerPieces.walk (P : topiarylaw12_LexerPieces.Pure) (a0 : ByteArray) (w : World) (hG : G w) (w0 : a0.size ≤ 140737488351232) :
    Calls Try.prog 10 #[.string a0] w fun e w' => e = .returned (.bool true) ∧ Below w.heap.size w w' := by
  obtain ⟨k, h⟩ := P a0 w0
  refine (topiarylaw12_LexerPieces.calls k a0 true w hG h).mono ?_
  rintro e w' ⟨rfl, hd⟩
  exact ⟨rfl, hd⟩
end Go.Proofs.Ytekkaoenabjeiaa.Q
end
section
set_option linter.unusedVariables false
set_option linter.unusedSimpArgs false
namespace Go.Proofs.Ytekkaoenabjeiaa.P12
open Go Go.RowKit Go.Proofs.Ytekkaoenabjeiaa Go.Proofs.Ytekkaoenabjeiaa.Q Go.Proofs.YtekkaoenabjeiaaW.PrintWords Go.Proofs.Ytekkaoenabjeiaa.X Go.Proofs.Ytekkaoenabjeiaa.P11
theorem prefix_take (t l : List UInt8) : t.isPrefixOf l = (l.take t.length == t) := by
  rw [Bool.eq_iff_iff, beq_iff_eq, List.isPrefixOf_iff_prefix]
  constructor
  · rintro ⟨r, rfl⟩; simp
  · intro h
    refine ⟨l.drop t.length, ?_⟩
    have := List.take_append_drop t.length l
    rw [h] at this; exact this
theorem stands_out (s t : ByteArray) (i : Int) (h0 : 0 ≤ i) (ht : 0 < t.size) (h : ¬ i + t.size ≤ (s.size : Int)) : standsB s i t = false := by
  unfold standsB Lib.hasPrefix
  rw [Bool.eq_false_iff]
  intro hp
  obtain ⟨r, hr⟩ := List.isPrefixOf_iff_prefix.1 hp
  have := congrArg List.length hr
  rw [List.length_append, List.length_drop, ← Lib.size_eq, ← Lib.size_eq] at this
  omega
theorem part_is (s t : ByteArray) (i : Int) (h0 : 0 ≤ i) (h : i + t.size ≤ (s.size : Int)) : ((s.extract i.toNat (i + (t.size : Int)).toNat).toList == t.toList) = standsB s i t := by
  unfold standsB Lib.hasPrefix
  rw [prefix_take, Lib.toList_data, Lib.toList_data, Lib.extract_data, show (i + (t.size : Int)).toNat - i.toNat = t.data.toList.length from by rw [← Lib.size_eq]; omega]
theorem begins_f (s t : ByteArray) (i : Int) (h0 : 0 ≤ i) (hi : i ≤ 4294967296) (ht : 0 < t.size) (hts : t.size ≤ 4294967296) : topiaryref12_begins.f s i t = some (standsB s i t) := by
  unfold topiaryref12_begins.f
  rw [cwr _ (by omega) (by omega)]
  by_cases h : i + (t.size : Int) ≤ (s.size : Int)
  · rw [if_pos h, if_pos h0, if_pos (by omega), part_is s t i h0 h]
  · rw [if_neg h, stands_out s t i h0 ht h]
def findN (l t : List UInt8) (i : Nat) : Int := if Lib.index (l.drop i) t < 0 then -1 else i + Lib.index (l.drop i) t
theorem find_l0 (s t : ByteArray) (hs : s.size ≤ 4294967296) (ht : 0 < t.size) (hts : t.size ≤ 4294967296) (d : Nat) : ∀ (n k : Nat), s.size + 1 - n = d → n ≤ s.size + 1 → d + 1 ≤ k → topiaryref12_find.l0 k s t n = some (findN s.data.toList t.data.toList n) := by
  have hsz : s.data.toList.length = s.size := (Lib.size_eq s).symm
  have htl : t.data.toList.length = t.size := (Lib.size_eq t).symm
  have hout : ∀ n : Nat, ¬ n + t.size ≤ s.size → Lib.index (s.data.toList.drop n) t.data.toList = -1 := by
    intro n hn
    by_cases hi : 0 ≤ Lib.index (s.data.toList.drop n) t.data.toList
    · have := Lib.index_room _ _ hi
      rw [List.length_drop] at this; omega
    · have := Lib.index_ge (s.data.toList.drop n) t.data.toList; omega
  induction d with
  | zero =>
    intro n k hd hn hk
    obtain ⟨k, rfl⟩ : ∃ j, k = j + 1 := ⟨k - 1, by omega⟩
    unfold topiaryref12_find.l0
    rw [cwr _ (by omega) (by omega), if_neg (by omega)]
    unfold findN
    rw [hout n (by omega), if_pos (by omega)]
  | succ d ih =>
    intro n k hd hn hk
    obtain ⟨k, rfl⟩ : ∃ j, k = j + 1 := ⟨k - 1, by omega⟩
    unfold topiaryref12_find.l0
    rw [cwr _ (by omega) (by omega)]
    by_cases h : (n : Int) + (t.size : Int) ≤ (s.size : Int)
    · have hcons := List.drop_eq_getElem_cons (show n < s.data.toList.length by omega)
      have hp := part_is s t n (by omega) h
      rw [if_pos h, if_pos (by omega), if_pos (by omega)]
      have hst : standsB s n t = t.data.toList.isPrefixOf (s.data.toList.drop n) := by unfold standsB Lib.hasPrefix; rw [show ((n : Nat) : Int).toNat = n from by omega]
      rw [hst] at hp
      by_cases hq : t.data.toList.isPrefixOf (s.data.toList.drop n) = true
      · rw [hq, beq_iff_eq] at hp
        rw [if_pos hp]
        unfold findN
        have : Lib.index (s.data.toList.drop n) t.data.toList = 0 := by
          rw [hcons] at hq ⊢
          show (if _ then _ else _) = _
          rw [if_pos hq]
        rw [this, if_neg (by omega)]; simp
      · have hp' : ¬ _ := fun e => hq (by rw [← hp, beq_iff_eq]; exact e)
        rw [if_neg hp', cwr _ (by omega) (by omega), show ((n : Nat) : Int) + 1 = ((n + 1 : Nat) : Int) from by omega, ih (n + 1) k (by omega) (by omega) (by omega)]
        unfold findN
        have hx : Lib.index (s.data.toList.drop n) t.data.toList = if Lib.index (s.data.toList.drop (n + 1)) t.data.toList == -1 then -1 else Lib.index (s.data.toList.drop (n + 1)) t.data.toList + 1 := by
          rw [hcons] at hq ⊢
          show (if _ then _ else _) = _
          rw [if_neg hq]
        have hge := Lib.index_ge (s.data.toList.drop (n + 1)) t.data.toList
        rw [hx]
        generalize Lib.index (s.data.toList.drop (n + 1)) t.data.toList = J at hge
        by_cases hm : J = -1
        · subst hm; rfl
        · have e1 : (J == -1) = false := beq_eq_false_iff_ne.2 hm
          rw [e1]
          simp only [Bool.false_eq_true, if_false]
          rw [if_neg (show ¬ J < 0 by omega), if_neg (show ¬ J + 1 < 0 by omega)]
          congr 1; omega
    · rw [if_neg h]
      unfold findN
      rw [hout n (by omega), if_pos (by omega)]
theorem find_f (s t : ByteArray) (i : Int) (h0 : 0 ≤ i) (hi : i ≤ (s.size : Int) + 1) (hs : s.size ≤ 4294967296) (ht : 0 < t.size) (hts : t.size ≤ 4294967296) (k : Nat) (hk : s.size + 2 ≤ k) : topiaryref12_find.f k s i t = some (findN s.data.toList t.data.toList i.toNat) := by
  unfold topiaryref12_find.f
  have := find_l0 s t hs ht hts (s.size + 1 - i.toNat) i.toNat k rfl (by omega) (by omega)
  rw [show ((i.toNat : Nat) : Int) = i from by omega] at this
  exact this
end Go.Proofs.Ytekkaoenabjeiaa.P12
end
section
set_option linter.unusedVariables false
set_option linter.unusedSimpArgs false
namespace Go.Proofs.Ytekkaoenabjeiaa.P12
open Go Go.RowKit Go.Proofs.Ytekkaoenabjeiaa Go.Proofs.Ytekkaoenabjeiaa.Q Go.Proofs.YtekkaoenabjeiaaW.PrintWords Go.Proofs.Ytekkaoenabjeiaa.X Go.Proofs.Ytekkaoenabjeiaa.P11
def decR (t : ByteArray) (l : List UInt8) : ByteArray × Bool := match dec l with
  | some v => (t ++ ⟨v.toArray⟩, true)
  | none => (⟨#[]⟩, false)
theorem app_mk (t : ByteArray) (v u : List UInt8) : t ++ (⟨(v ++ u).toArray⟩ : ByteArray) = (t ++ ⟨v.toArray⟩) ++ ⟨u.toArray⟩ := by
  apply ByteArray.ext; apply Array.ext'
  simp [ByteArray.data_append, List.append_assoc]
theorem decR_map (t : ByteArray) (v : List UInt8) (l u : List UInt8) (h : dec l = (dec u).map (v ++ ·)) : decR t l = decR (t ++ ⟨v.toArray⟩) u := by
  unfold decR
  rw [h]
  cases dec u with
  | none => rfl
  | some w => show (t ++ (⟨(v ++ w).toArray⟩ : ByteArray), true) = _; rw [app_mk]
theorem app_nil (t : ByteArray) : t ++ (⟨([] : List UInt8).toArray⟩ : ByteArray) = t := by
  apply ByteArray.ext; apply Array.ext'
  simp [ByteArray.data_append]
theorem mk_size (v : List UInt8) : (⟨v.toArray⟩ : ByteArray).size = v.length := by simp [ByteArray.size]
theorem decoded_l0 (s : ByteArray) (hs : s.size ≤ 4294967000) (d : Nat) : ∀ (n k : Nat) (t : ByteArray), s.size - n ≤ d → n ≤ s.size → d + 1 ≤ k → t.size ≤ 4 * n → topiaryref12_decoded.l0 k s t n = some (decR t (s.data.toList.drop n)) := by
  have hsz : s.data.toList.length = s.size := (Lib.size_eq s).symm
  have hend : ∀ (k : Nat) (t : ByteArray), 1 ≤ k → topiaryref12_decoded.l0 k s t s.size = some (decR t (s.data.toList.drop s.size)) := by
    intro k t hk
    obtain ⟨k, rfl⟩ : ∃ j, k = j + 1 := ⟨k - 1, by omega⟩
    unfold topiaryref12_decoded.l0
    rw [if_neg (by omega), List.drop_of_length_le (by omega)]
    unfold decR
    rw [dec_nil]
    show some (t, true) = some (t ++ (⟨([] : List UInt8).toArray⟩ : ByteArray), true)
    rw [app_nil]
  induction d with
  | zero =>
    intro n k t hd hn hk ht
    have : n = s.size := by omega
    subst this
    exact hend k t (by omega)
  | succ d ih =>
    intro n k t hd hn hk ht
    by_cases hlt : n < s.size
    · obtain ⟨k, rfl⟩ : ∃ j, k = j + 1 := ⟨k - 1, by omega⟩
      have hcons := cdrop_cons s n hlt
      obtain ⟨c, hc⟩ : ∃ c, s[n] = c := ⟨_, rfl⟩
      rw [hc] at hcons
      unfold topiaryref12_decoded.l0
      rw [if_pos (by omega), if_pos (by omega), bt_get' s n hlt, hc]
      by_cases h38 : c = 38
      · subst h38
        rw [if_pos (by decide), topiaryref11_Entity.f, if_pos (by omega), Option.bind_some, refEnt_eq]
        have hent : entP s.data.toList n = entL (38 :: s.data.toList.drop (n + 1)) := by
          unfold entP; rw [if_pos ⟨by omega, by omega⟩, show ((n : Nat) : Int).toNat = n from by omega, hcons]
        have hok := entL_ok (38 :: s.data.toList.drop (n + 1))
        have hdec := dec_amp (s.data.toList.drop (n + 1))
        have hlen : (38 :: s.data.toList.drop (n + 1)).length = s.size - n := by rw [← hcons, List.length_drop, hsz]
        rw [hlen] at hok
        rw [hent]
        obtain ⟨e, he⟩ : ∃ e, entL (38 :: s.data.toList.drop (n + 1)) = e := ⟨_, rfl⟩
        rw [he] at hok hdec ⊢
        obtain ⟨e1, e2⟩ := e
        simp only at hok hdec ⊢
        by_cases hz : e2 = 0
        · rw [if_pos hz] at hdec
          rw [if_pos hz, hcons]
          unfold decR
          rw [hdec]
        · rw [if_neg hz] at hdec
          have hes := mk_size e1
          rw [if_neg hz, if_pos (by omega), cwr _ (by omega) (by omega)]
          obtain ⟨m, hm⟩ : ∃ m : Nat, e2 = (m : Int) := ⟨e2.toNat, by omega⟩
          subst hm
          rw [show ((n : Nat) : Int) + (m : Int) = ((n + m : Nat) : Int) from by omega, ih (n + m) k _ (by omega) (by omega) (by omega) (by rw [ByteArray.size_append]; omega)]
          rw [← hcons, show ((m : Nat) : Int).toNat = m from by omega, List.drop_drop] at hdec
          rw [hcons] at hdec ⊢
          rw [decR_map t e1 _ _ hdec]
      · have hne : ¬ ((c.toNat : Int) = 38) := fun e => h38 (UInt8.toNat_inj.1 (by show c.toNat = 38; omega))
        have hx : (s.extract n (n + 1)).data.toList = [c] := by
          rw [Lib.extract_data, hcons]; simp
        have hxs : (s.extract n (n + 1)).size = 1 := by rw [Lib.size_eq, hx]; rfl
        have hxe : s.extract n (n + 1) = ⟨[c].toArray⟩ := by apply ByteArray.ext; apply Array.ext'; rw [hx]
        rw [if_neg hne, cwr _ (by omega) (by omega), if_pos (by omega), if_pos (by omega), show ((n : Nat) : Int).toNat = n from by omega, show (((n : Nat) : Int) + 1).toNat = n + 1 from by omega, hxs, if_pos (by omega), show ((n : Nat) : Int) + 1 = ((n + 1 : Nat) : Int) from by omega,
          ih (n + 1) k _ (by omega) (by omega) (by omega) (by rw [ByteArray.size_append, hxs]; omega), hxe, hcons]
        rw [decR_map t [c] (c :: s.data.toList.drop (n + 1)) (s.data.toList.drop (n + 1)) (dec_cons c _ h38)]
    · have : n = s.size := by omega
      subst this
      exact hend k t (by omega)
theorem decoded_f (s : ByteArray) (hs : s.size ≤ 4294967000) (k : Nat) (hk : s.size + 1 ≤ k) : topiaryref12_decoded.f k s = some (decR ⟨#[]⟩ s.data.toList) := by
  have := decoded_l0 s hs s.size 0 k ⟨#[]⟩ (by omega) (by omega) hk (by decide)
  exact this
end Go.Proofs.Ytekkaoenabjeiaa.P12
end
section
set_option linter.unusedVariables false
set_option linter.unusedSimpArgs false
namespace Go.Proofs.Ytekkaoenabjeiaa.P12
open Go Go.RowKit Go.Proofs.Ytekkaoenabjeiaa Go.Proofs.Ytekkaoenabjeiaa.Q Go.Proofs.YtekkaoenabjeiaaW.PrintWords Go.Proofs.Ytekkaoenabjeiaa.X Go.Proofs.Ytekkaoenabjeiaa.P11
theorem cut_find (l t : List UInt8) (i : Nat) : (Lib.cut (l.drop i) t).2.2 = decide (0 ≤ findN l t i) ∧ (0 ≤ findN l t i → findN l t i = i + ((Lib.cut (l.drop i) t).1.length : Int) ∧ (Lib.cut (l.drop i) t).1 = (l.drop i).take (findN l t i - i).toNat) := by
  unfold findN Lib.cut
  have hle := Lib.index_le (l.drop i) t
  by_cases h : 0 ≤ Lib.index (l.drop i) t
  · rw [if_pos h, if_neg (by omega)]
    refine ⟨by rw [decide_eq_true (by omega)], fun _ => ⟨?_, ?_⟩⟩
    · show _ = (i : Int) + (((l.drop i).take _).length : Int)
      rw [List.length_take]; omega
    · show (l.drop i).take _ = (l.drop i).take _
      congr 1; omega
  · rw [if_neg h, if_pos (by omega)]
    exact ⟨by rw [decide_eq_false (by omega)], fun h => by omega⟩
def AttrSame (r : Int × Int × Int × ByteArray × ByteArray × Bool) (p : Option (List Tok × Int)) : Prop := match p with
  | some (new, a') => new = [⟨r.1, r.2.1, r.2.2.1, r.2.2.2.1, r.2.2.2.2.1⟩] ∧ r.2.2.2.2.2 = true ∧ a' = r.2.2.1
  | none => r.2.2.2.2.2 = false
theorem skip_at (s : ByteArray) (a : Int) (hs : s.size ≤ 65536) (k : Nat) (hk : 200000 ≤ k) : topiaryref11_Skip.f k s a = some (skipP s.data.toList a) := by
  obtain ⟨j, rfl⟩ : ∃ j, k = 2 * s.size + 2 + j := ⟨k - (2 * s.size + 2), by omega⟩
  exact ref_skip_f s a (by omega) j
theorem name_at (s : ByteArray) (a : Int) (hs : s.size ≤ 65536) (k : Nat) (hk : 200000 ≤ k) : topiaryref11_NameEnd.f k s a = some (nameEndP s.data.toList a) := by
  obtain ⟨j, rfl⟩ : ∃ j, k = 2 * s.size + 2 + j := ⟨k - (2 * s.size + 2), by omega⟩
  exact ref_name_f s a (by omega) j
theorem attr_f (s : ByteArray) (a : Int) (hs : s.size ≤ 65536) (h0 : 0 ≤ a) (h1 : a ≤ (s.size : Int)) (k : Nat) (hk : 300000 ≤ k) : ∃ r, topiaryref12_attr.f k s a = some r ∧ AttrSame r (attrP s a) := by
  have hsz : s.data.toList.length = s.size := (Lib.size_eq s).symm
  unfold topiaryref12_attr.f attrP
  obtain ⟨F, hF⟩ : ∃ F, skipP s.data.toList a = F := ⟨_, rfl⟩
  obtain ⟨E, hE⟩ : ∃ E, nameEndP s.data.toList F = E := ⟨_, rfl⟩
  obtain ⟨Q, hQ⟩ : ∃ Q, skipP s.data.toList E = Q := ⟨_, rfl⟩
  obtain ⟨O, hO⟩ : ∃ O, skipP s.data.toList (Q + 1) = O := ⟨_, rfl⟩
  have hF1 := skipP_in s.data.toList a (by omega) (by omega)
  rw [hF] at hF1
  have hE1 := nameEndP_in s.data.toList F (by omega) (by omega)
  rw [hE] at hE1
  have hQ1 := skipP_in s.data.toList E (by omega) (by omega)
  rw [hQ] at hQ1
  rw [skip_at s a hs k (by omega), Option.bind_some, hF, name_at s F hs k (by omega), Option.bind_some, hE]
  simp only [hF, hE, hQ, hO]
  obtain ⟨k, rfl⟩ : ∃ j, k = j + 2 := ⟨k - 2, by omega⟩
  by_cases c1 : F = a
  · rw [if_pos c1, if_pos c1, topiaryref12_attr.j0, if_pos rfl]
    exact ⟨_, rfl, rfl⟩
  rw [if_neg c1, if_neg c1]
  by_cases c2 : E = F
  · rw [if_pos c2, c2, beq_self_eq_true, topiaryref12_attr.j0, if_pos rfl]
    exact ⟨_, rfl, rfl⟩
  rw [if_neg c2, beq_eq_false_iff_ne.2 c2, topiaryref12_attr.j0, if_neg (by decide), skip_at s E hs (k + 1) (by omega), Option.bind_some, hQ, begins_f s ⟨#[61]⟩ Q (by omega) (by omega) (by decide) (by decide), Option.bind_some]
  by_cases c3 : standsB s Q ⟨#[61]⟩ = false
  · rw [if_pos c3, if_neg (by rw [c3]; decide)]
    exact ⟨_, rfl, rfl⟩
  have c3' : standsB s Q ⟨#[61]⟩ = true := by simpa using c3
  have hr1 := stands_room s Q 61 (by omega) c3'
  have hO1 := skipP_in s.data.toList (Q + 1) (by omega) (by omega)
  rw [hO] at hO1
  rw [if_neg c3, if_pos c3', cwr _ (by omega) (by omega), skip_at s (Q + 1) hs (k + 1) (by omega), Option.bind_some, hO, begins_f s ⟨#[34]⟩ O (by omega) (by omega) (by decide) (by decide), Option.bind_some, begins_f s ⟨#[39]⟩ O (by omega) (by omega) (by decide) (by decide), Option.bind_some]
  by_cases c4 : standsB s O ⟨#[34]⟩ = false ∧ standsB s O ⟨#[39]⟩ = false
  · rw [if_pos c4, if_neg (by rw [c4.1]; decide), c4.2, topiaryref12_attr.j1, if_pos (by rfl)]
    exact ⟨_, rfl, rfl⟩
  have hO2 : O < (s.size : Int) := by
    by_cases c : standsB s O ⟨#[34]⟩ = true
    · exact stands_room s O 34 (by omega) c
    · by_cases c' : standsB s O ⟨#[39]⟩ = true
      · exact stands_room s O 39 (by omega) c'
      · exact absurd ⟨by simpa using c, by simpa using c'⟩ c4
  have hj : (if standsB s O ⟨#[34]⟩ = true then topiaryref12_attr.j1 (k + 1) s F E O false else topiaryref12_attr.j1 (k + 1) s F E O (!standsB s O ⟨#[39]⟩)) = topiaryref12_attr.j1 (k + 1) s F E O false := by
    by_cases c : standsB s O ⟨#[34]⟩ = true
    · rw [if_pos c]
    · have c' : standsB s O ⟨#[39]⟩ = true := by
        by_cases c' : standsB s O ⟨#[39]⟩ = true
        · exact c'
        · exact absurd ⟨by simpa using c, by simpa using c'⟩ c4
      rw [if_neg c, c']; rfl
  rw [if_neg c4, hj, topiaryref12_attr.j1, if_neg (by decide), cwr _ (by omega) (by omega), if_pos (by omega), if_pos (by omega), if_pos (by omega)]
  obtain ⟨Z, hZ⟩ : ∃ Z, s.extract O.toNat (O + 1).toNat = Z := ⟨_, rfl⟩
  have hZ' : partB s O (O + 1) = Z := hZ
  have hZs : Z.size = 1 := by rw [Lib.size_eq, ← hZ, Lib.extract_data, List.length_take, List.length_drop]; omega
  rw [hZ, hZ', find_f s Z (O + 1) (by omega) (by omega) (by omega) (by omega) (by omega) k (by omega), Option.bind_some]
  have hcf := cut_find s.data.toList Z.data.toList (O + 1).toNat
  obtain ⟨T, hT⟩ : ∃ T, findN s.data.toList Z.data.toList (O + 1).toNat = T := ⟨_, rfl⟩
  obtain ⟨c, hc⟩ : ∃ c, Lib.cut (s.data.toList.drop (O + 1).toNat) Z.data.toList = c := ⟨_, rfl⟩
  rw [hT, hc] at hcf
  rw [hT, hc]
  by_cases c5 : T < 0
  · have e5 : c.2.2 = false := by rw [hcf.1, decide_eq_false (by omega)]
    rw [if_pos c5, if_pos e5]
    exact ⟨_, rfl, rfl⟩
  obtain ⟨hT1, hc1⟩ := hcf.2 (by omega)
  have hcl : (c.1.length : Int) ≤ (s.size : Int) - (O + 1) := by
    rw [hc1, List.length_take, List.length_drop]; omega
  have hraw : (s.extract (O + 1).toNat T.toNat).data.toList = c.1 := by
    rw [Lib.extract_data, hc1]; congr 1; omega
  obtain ⟨R, hR⟩ : ∃ R, s.extract (O + 1).toNat T.toNat = R := ⟨_, rfl⟩
  rw [hR] at hraw
  have hRs : R.size ≤ s.size := by rw [Lib.size_eq, hraw]; omega
  have e5 : ¬ c.2.2 = false := by rw [hcf.1, decide_eq_true (by omega)]; decide
  rw [if_neg c5, if_neg e5, if_pos (by omega), if_pos (by omega), if_pos (by omega), hR, find_f R ⟨#[60]⟩ 0 (by omega) (by omega) (by omega) (by decide) (by decide) k (by omega), Option.bind_some]
  have hfi : (findN R.data.toList (⟨#[60]⟩ : ByteArray).data.toList (0 : Int).toNat ≥ 0) ↔ 0 ≤ Lib.indexByte c.1 60 := by
    unfold findN
    have : Lib.index (R.data.toList.drop (0 : Int).toNat) (⟨#[60]⟩ : ByteArray).data.toList = Lib.indexByte c.1 60 := by
      show Lib.index (R.data.toList.drop 0) [60] = _
      rw [List.drop_zero, Lib.index_one, hraw]
    rw [this]
    split
    · omega
    · constructor <;> intro _ <;> omega
  by_cases c6 : 0 ≤ Lib.indexByte c.1 60
  · rw [if_pos (hfi.2 c6), if_pos c6]
    exact ⟨_, rfl, rfl⟩
  rw [if_neg (fun h => c6 (hfi.1 h)), if_neg c6, decoded_f R (by omega) k (by omega), Option.bind_some, if_pos (by omega), if_pos (by omega), if_pos (by omega)]
  refine ⟨_, rfl, ?_⟩
  unfold decR
  rw [hraw]
  cases hd : dec c.1 with
  | none => rfl
  | some v =>
    have hTw : wrap64 (T + 1) = T + 1 := cwr _ (by omega) (by omega)
    have hv : (⟨#[]⟩ : ByteArray) ++ (⟨v.toArray⟩ : ByteArray) = ⟨v.toArray⟩ := by
      apply ByteArray.ext; apply Array.ext'; simp [ByteArray.data_append]
    refine ⟨?_, rfl, ?_⟩
    · show [_] = [(⟨2, F, wrap64 (T + 1), _, _⟩ : Tok)]
      rw [hTw, show T + 1 = O + (c.1.length : Int) + 2 from by omega]
      show [_] = [(⟨2, F, _, partB s F E, (⟨#[]⟩ : ByteArray) ++ (⟨v.toArray⟩ : ByteArray)⟩ : Tok)]
      rw [hv]
    · show _ = wrap64 (T + 1)
      rw [hTw]; omega
end Go.Proofs.Ytekkaoenabjeiaa.P12
end
section
set_option linter.unusedVariables false
set_option linter.unusedSimpArgs false
namespace Go.Proofs.Ytekkaoenabjeiaa.P12
open Go Go.RowKit Go.Proofs.Ytekkaoenabjeiaa Go.Proofs.Ytekkaoenabjeiaa.Q Go.Proofs.YtekkaoenabjeiaaW.PrintWords Go.Proofs.Ytekkaoenabjeiaa.X Go.Proofs.Ytekkaoenabjeiaa.P11
def PieceSame (r : List Tok × Bool) (p : Option (List Tok × Int)) : Prop := match p with
  | some (new, a') => r = (new, true) ∧ ∃ t, new.getLast? = some t ∧ t.f2 = a'
  | none => r.2 = false
theorem rd_last (l : List Tok) (t : Tok) (h : (l ++ [t]).length ≤ 4294967296) : rd_T46 (l ++ [t]) (wrap64 (((l ++ [t]).length : Int) - 1)) = t := by
  rw [List.length_append, List.length_singleton] at h ⊢
  rw [cwr _ (by omega) (by omega)]
  unfold rd_T46
  rw [show (((l.length + 1 : Nat) : Int) - 1).toNat = l.length from by omega]
  simp
theorem tag_l0 (s : ByteArray) (hs : s.size ≤ 65536) (n : Nat) : ∀ (a : Int) (l : List Tok) (t : Tok) (k : Nat), t.f2 = a → 0 ≤ a → a ≤ (s.size : Int) → ((l ++ [t]).length : Int) ≤ a → (s.size : Int) - a < n → 400000 + n ≤ k →
    ∃ r, topiaryref12_tag.l0 k s (l ++ [t]) = some r ∧ PieceSame r (attrsF s n a (l ++ [t])) := by
  induction n with
  | zero => intro a l t k _ _ h1 _ h2 _; omega
  | succ n ih =>
    intro a l t k ht h0 h1 hl hn hk
    have hsz : s.data.toList.length = s.size := (Lib.size_eq s).symm
    obtain ⟨k, rfl⟩ : ∃ j, k = j + 1 := ⟨k - 1, by omega⟩
    have hll : (l ++ [t]).length = l.length + 1 := by rw [List.length_append, List.length_singleton]
    have hrd := rd_last l t (by omega)
    have hw : wrap64 (((l ++ [t]).length : Int) - 1) = l.length := by rw [hll]; rw [cwr _ (by omega) (by omega)]; omega
    unfold topiaryref12_tag.l0 attrsF
    rw [hrd, ht]
    obtain ⟨I, hI⟩ : ∃ I, skipP s.data.toList a = I := ⟨_, rfl⟩
    have hI1 := skipP_in s.data.toList a h0 (by omega)
    rw [hI] at hI1
    rw [if_pos (by rw [hw]; omega), if_pos (by rw [hw, hll]; omega), skip_at s a hs k (by omega), Option.bind_some, hI, begins_f s ⟨#[62]⟩ I (by omega) (by omega) (by decide) (by decide), Option.bind_some]
    by_cases c1 : standsB s I ⟨#[62]⟩ = true
    · rw [if_pos c1, if_pos c1, if_pos (by omega), cwr _ (by omega) (by omega)]
      exact ⟨_, rfl, rfl, _, List.getLast?_concat, rfl⟩
    rw [if_neg c1, if_neg c1, begins_f s ⟨#[47, 62]⟩ I (by omega) (by omega) (by decide) (by decide), Option.bind_some]
    by_cases c2 : standsB s I ⟨#[47, 62]⟩ = true
    · rw [if_pos c2, if_pos c2, if_pos (by omega), cwr _ (by omega) (by omega)]
      exact ⟨_, rfl, rfl, _, List.getLast?_concat, rfl⟩
    rw [if_neg c2, if_neg c2]
    obtain ⟨r, hr, hsame⟩ := attr_f s a hs h0 h1 k (by omega)
    rw [hr, Option.bind_some]
    cases hA : attrP s a with
    | none =>
      rw [hA] at hsame
      have : r.2.2.2.2.2 = false := hsame
      rw [this, if_neg (by decide)]
      exact ⟨_, rfl, rfl⟩
    | some v =>
      obtain ⟨new, a'⟩ := v
      rw [hA] at hsame
      obtain ⟨e1, e2, e3⟩ := hsame
      have hroom := attr_room s a h0 h1 new a' hA
      rw [if_pos e2, if_pos (by omega)]
      subst e1
      exact ih a' (l ++ [t]) _ k e3.symm (by omega) hroom.2.1 (by rw [List.length_append, hll, List.length_singleton]; omega) (by omega) (by omega)
end Go.Proofs.Ytekkaoenabjeiaa.P12
end
section
set_option linter.unusedVariables false
set_option linter.unusedSimpArgs false
namespace Go.Proofs.Ytekkaoenabjeiaa.P12
open Go Go.RowKit Go.Proofs.Ytekkaoenabjeiaa Go.Proofs.Ytekkaoenabjeiaa.Q Go.Proofs.YtekkaoenabjeiaaW.PrintWords Go.Proofs.Ytekkaoenabjeiaa.X Go.Proofs.Ytekkaoenabjeiaa.P11
theorem tag_f (s : ByteArray) (a : Int) (hs : s.size ≤ 65536) (h0 : 0 ≤ a) (h1 : a + 1 ≤ (s.size : Int)) (k : Nat) (hk : 500000 ≤ k) : ∃ r, topiaryref12_tag.f k s a = some r ∧ PieceSame r (tagP s a) := by
  have hsz : s.data.toList.length = s.size := (Lib.size_eq s).symm
  unfold topiaryref12_tag.f tagP
  obtain ⟨E, hE⟩ : ∃ E, nameEndP s.data.toList (a + 1) = E := ⟨_, rfl⟩
  have hE1 := nameEndP_in s.data.toList (a + 1) (by omega) (by omega)
  rw [hE] at hE1
  rw [cwr _ (by omega) (by omega), name_at s (a + 1) hs k (by omega), Option.bind_some, hE]
  simp only [hE]
  by_cases c1 : E = a + 1
  · rw [if_pos c1, if_pos c1]
    exact ⟨_, rfl, rfl⟩
  rw [if_neg c1, if_neg c1, if_pos (by omega), if_pos (by omega), if_pos (by omega)]
  exact tag_l0 s hs (s.size + 1) E [] _ k rfl (by omega) (by omega) (by simp; omega) (by omega) (by omega)
theorem part_eq (s : ByteArray) (i j : Int) (h0 : 0 ≤ i) (l : List UInt8) (h : l = (s.data.toList.drop i.toNat).take (j - i).toNat) (hij : i ≤ j) : s.extract i.toNat j.toNat = ⟨l.toArray⟩ := by
  apply ByteArray.ext; apply Array.ext'
  rw [Lib.extract_data, h, show j.toNat - i.toNat = (j - i).toNat from by omega]
theorem piece_f (s : ByteArray) (a : Int) (hs : s.size ≤ 65536) (h0 : 0 ≤ a) (h1 : a < (s.size : Int)) (k : Nat) (hk : 600000 ≤ k) : ∃ r, topiaryref12_piece.f k s a = some r ∧ PieceSame r (stepP s a) := by
  have hsz : s.data.toList.length = s.size := (Lib.size_eq s).symm
  unfold topiaryref12_piece.f stepP
  rw [begins_f s ⟨#[60, 33, 45, 45]⟩ a h0 (by omega) (by decide) (by decide), Option.bind_some]
  by_cases c1 : standsB s a ⟨#[60, 33, 45, 45]⟩ = true
  · have hr := stands_room2 s a _ h0 (by decide) c1
    rw [show ((⟨#[60, 33, 45, 45]⟩ : ByteArray).size : Int) = 4 from rfl] at hr
    rw [if_pos c1, if_pos c1, cwr _ (by omega) (by omega), find_f s ⟨#[45, 45]⟩ (a + 4) (by omega) (by omega) (by omega) (by decide) (by decide) k (by omega), Option.bind_some]
    unfold commentP
    have hle := Lib.index_le (s.data.toList.drop (a.toNat + 4)) [45, 45]
    rw [List.length_drop] at hle
    have hT : findN s.data.toList (⟨#[45, 45]⟩ : ByteArray).data.toList (a + 4).toNat = if Lib.index (s.data.toList.drop (a.toNat + 4)) [45, 45] < 0 then -1 else a + 4 + Lib.index (s.data.toList.drop (a.toNat + 4)) [45, 45] := by
      unfold findN
      rw [show (a + 4).toNat = a.toNat + 4 from by omega, show (⟨#[45, 45]⟩ : ByteArray).data.toList = [45, 45] from rfl]
      split
      · rfl
      · omega
    obtain ⟨i, hi⟩ : ∃ i, Lib.index (s.data.toList.drop (a.toNat + 4)) [45, 45] = i := ⟨_, rfl⟩
    rw [hi] at hT hle
    rw [hT]
    simp only [hi]
    by_cases c : i < 0
    · rw [if_pos c, if_pos c, if_pos (by omega)]
      exact ⟨_, rfl, rfl⟩
    rw [if_neg c, if_neg c, if_neg (by omega), begins_f s ⟨#[45, 45, 62]⟩ (a + 4 + i) (by omega) (by omega) (by decide) (by decide), Option.bind_some]
    have hst : standsB s (a + 4 + i) ⟨#[45, 45, 62]⟩ = Lib.hasPrefix ((s.data.toList.drop (a.toNat + 4)).drop i.toNat) [45, 45, 62] := by
      unfold standsB
      rw [List.drop_drop, show (a + 4 + i).toNat = a.toNat + 4 + i.toNat from by omega]
    rw [hst]
    by_cases c' : Lib.hasPrefix ((s.data.toList.drop (a.toNat + 4)).drop i.toNat) [45, 45, 62] = true
    · rw [if_pos c', if_pos c', if_pos (by omega), if_pos (by omega), if_pos (by omega), cwr _ (by omega) (by omega)]
      refine ⟨_, rfl, ?_, _, rfl, rfl⟩
      rw [part_eq s (a + 4) (a + 4 + i) (by omega) ((s.data.toList.drop (a.toNat + 4)).take i.toNat) (by rw [show (a + 4).toNat = a.toNat + 4 from by omega]; congr 1; omega) (by omega)]
    · rw [if_neg c', if_neg c']
      exact ⟨_, rfl, rfl⟩
  rw [if_neg c1, if_neg c1, begins_f s ⟨#[60, 33, 91, 67, 68, 65, 84, 65, 91]⟩ a h0 (by omega) (by decide) (by decide), Option.bind_some]
  by_cases c2 : standsB s a ⟨#[60, 33, 91, 67, 68, 65, 84, 65, 91]⟩ = true
  · have hr := stands_room2 s a _ h0 (by decide) c2
    rw [show ((⟨#[60, 33, 91, 67, 68, 65, 84, 65, 91]⟩ : ByteArray).size : Int) = 9 from rfl] at hr
    rw [if_pos c2, if_pos c2, cwr _ (by omega) (by omega), find_f s ⟨#[93, 93, 62]⟩ (a + 9) (by omega) (by omega) (by omega) (by decide) (by decide) k (by omega), Option.bind_some]
    unfold plainP
    have hcf := cut_find s.data.toList [93, 93, 62] (a + 9).toNat
    rw [show (⟨#[93, 93, 62]⟩ : ByteArray).data.toList = [93, 93, 62] from rfl]
    obtain ⟨T, hT⟩ : ∃ T, findN s.data.toList [93, 93, 62] (a + 9).toNat = T := ⟨_, rfl⟩
    rw [hT] at hcf ⊢
    rw [show (a + 9).toNat = a.toNat + 9 from by omega] at hcf ⊢
    obtain ⟨c, hc⟩ : ∃ c, Lib.cut (s.data.toList.drop (a.toNat + 9)) [93, 93, 62] = c := ⟨_, rfl⟩
    rw [hc] at hcf
    simp only [hc]
    by_cases c5 : T < 0
    · have e5 : ¬ c.2.2 = true := by rw [hcf.1, decide_eq_false (by omega)]; decide
      rw [if_pos c5, if_neg e5]
      exact ⟨_, rfl, rfl⟩
    · have e5 : c.2.2 = true := by rw [hcf.1, decide_eq_true (by omega)]
      obtain ⟨hT1, hc1⟩ := hcf.2 (by omega)
      have hcl : (c.1.length : Int) ≤ (s.size : Int) - (a + 9) := by
        rw [hc1, List.length_take, List.length_drop]; omega
      rw [if_neg c5, if_pos e5, if_pos (by omega), if_pos (by omega), if_pos (by omega), cwr _ (by omega) (by omega)]
      refine ⟨_, rfl, ?_, _, rfl, rfl⟩
      have hp := part_eq s (a + 9) T (by omega) c.1 (by rw [show (a + 9).toNat = a.toNat + 9 from by omega, hc1]; congr 1; omega) (by omega)
      rw [show (a + 9).toNat = a.toNat + 9 from by omega] at hp
      rw [hp, show T + 3 = a + 9 + (c.1.length : Int) + 3 from by omega]
  rw [if_neg c2, if_neg c2]
  rw [begins_f s ⟨#[60, 47]⟩ a h0 (by omega) (by decide) (by decide), Option.bind_some]
  by_cases c3 : standsB s a ⟨#[60, 47]⟩ = true
  · have hr := stands_room2 s a _ h0 (by decide) c3
    rw [show ((⟨#[60, 47]⟩ : ByteArray).size : Int) = 2 from rfl] at hr
    unfold closingP
    obtain ⟨E, hE⟩ : ∃ E, nameEndP s.data.toList (a + 2) = E := ⟨_, rfl⟩
    obtain ⟨T, hT⟩ : ∃ T, skipP s.data.toList E = T := ⟨_, rfl⟩
    have hE1 := nameEndP_in s.data.toList (a + 2) (by omega) (by omega)
    rw [hE] at hE1
    have hT1 := skipP_in s.data.toList E (by omega) (by omega)
    rw [hT] at hT1
    rw [if_pos c3, if_pos c3, cwr _ (by omega) (by omega), name_at s (a + 2) hs k (by omega), Option.bind_some, hE, skip_at s E hs k (by omega), Option.bind_some, hT]
    simp only [hE, hT]
    by_cases c : E = a + 2
    · rw [if_pos c, if_pos c]
      exact ⟨_, rfl, rfl⟩
    rw [if_neg c, if_neg c, begins_f s ⟨#[62]⟩ T (by omega) (by omega) (by decide) (by decide), Option.bind_some]
    by_cases c' : standsB s T ⟨#[62]⟩ = true
    · rw [if_pos c', if_pos c', if_pos (by omega), if_pos (by omega), if_pos (by omega), cwr _ (by omega) (by omega)]
      exact ⟨_, rfl, rfl, _, rfl, rfl⟩
    · rw [if_neg c', if_neg c']
      exact ⟨_, rfl, rfl⟩
  rw [if_neg c3, if_neg c3, begins_f s ⟨#[60]⟩ a h0 (by omega) (by decide) (by decide), Option.bind_some]
  by_cases c4 : standsB s a ⟨#[60]⟩ = true
  · rw [if_pos c4, if_pos c4]
    obtain ⟨r, hr, hsame⟩ := tag_f s a hs h0 (by omega) k (by omega)
    rw [hr, Option.bind_some]
    exact ⟨_, rfl, hsame⟩
  rw [if_neg c4, if_neg c4]
  rw [find_f s ⟨#[60]⟩ a h0 (by omega) (by omega) (by decide) (by decide) k (by omega), Option.bind_some, show (⟨#[60]⟩ : ByteArray).data.toList = [60] from rfl]
  unfold textP
  have hcf := cut_find s.data.toList [60] a.toNat
  obtain ⟨T, hT⟩ : ∃ T, findN s.data.toList [60] a.toNat = T := ⟨_, rfl⟩
  obtain ⟨c, hc⟩ : ∃ c, Lib.cut (s.data.toList.drop a.toNat) [60] = c := ⟨_, rfl⟩
  rw [hT, hc] at hcf
  rw [hT]
  simp only [hc]
  have hcl : c.1.length ≤ (s.data.toList.drop a.toNat).length := by rw [← hc]; exact cut_le _ _
  rw [List.length_drop] at hcl
  have hfin : ∀ R : ByteArray, R.data.toList = c.1 → ∃ r, ((topiaryref12_decoded.f k R).bind fun b => some ([(⟨6, a, a + (c.1.length : Int), (⟨#[]⟩ : ByteArray), b.1⟩ : Tok)], b.2)) = some r ∧ PieceSame r (match dec c.1 with
      | some v => some ([(⟨6, a, a + (c.1.length : Int), ⟨#[]⟩, ⟨v.toArray⟩⟩ : Tok)], a + (c.1.length : Int))
      | none => none) := by
    intro R hR
    have hRs : R.size ≤ s.size := by rw [Lib.size_eq, hR]; omega
    rw [decoded_f R (by omega) k (by omega), Option.bind_some]
    refine ⟨_, rfl, ?_⟩
    unfold decR
    rw [hR]
    cases hd : dec c.1 with
    | none => rfl
    | some v =>
      have hv : (⟨#[]⟩ : ByteArray) ++ (⟨v.toArray⟩ : ByteArray) = ⟨v.toArray⟩ := by
        apply ByteArray.ext; apply Array.ext'; simp [ByteArray.data_append]
      refine ⟨?_, _, rfl, rfl⟩
      show ([_], true) = _
      rw [← hv]
  by_cases c5 : T < 0
  · have hcu : c.1 = s.data.toList.drop a.toNat := by
      rw [← hc]
      unfold Lib.cut
      rw [if_neg]
      intro hi
      have : (Lib.cut (s.data.toList.drop a.toNat) [60]).2.2 = true := by unfold Lib.cut; rw [if_pos hi]
      rw [hc, hcf.1, decide_eq_true_eq] at this
      omega
    have hlen : (s.size : Int) = a + (c.1.length : Int) := by rw [hcu, List.length_drop]; omega
    rw [if_pos c5, if_pos h0, if_pos (by omega), if_pos (by omega)]
    have := hfin (s.extract a.toNat ((s.size : Int)).toNat) (by rw [Lib.extract_data, hcu, List.take_of_length_le (by rw [List.length_drop]; omega)])
    rw [← hlen] at this
    rw [← hlen]
    exact this
  · obtain ⟨hT1, hc1⟩ := hcf.2 (by omega)
    rw [if_neg c5, if_pos h0, if_pos (by omega), if_pos (by omega)]
    have hTa : T = a + (c.1.length : Int) := by omega
    have := hfin (s.extract a.toNat T.toNat) (by rw [Lib.extract_data, hc1]; congr 1; omega)
    rw [← hTa] at this
    rw [← hTa]
    exact this
end Go.Proofs.Ytekkaoenabjeiaa.P12
end
section
set_option linter.unusedVariables false
set_option linter.unusedSimpArgs false
namespace Go.Proofs.Ytekkaoenabjeiaa.P12
open Go Go.RowKit Go.Proofs.Ytekkaoenabjeiaa Go.Proofs.Ytekkaoenabjeiaa.Q Go.Proofs.YtekkaoenabjeiaaW.PrintWords Go.Proofs.Ytekkaoenabjeiaa.X Go.Proofs.Ytekkaoenabjeiaa.P11
theorem rd_end (l : List Tok) (t : Tok) (ht : l.getLast? = some t) (h : l.length ≤ 4294967296) : rd_T46 l (wrap64 ((l.length : Int) - 1)) = t ∧ wrap64 ((l.length : Int) - 1) = (l.length : Int) - 1 ∧ 1 ≤ l.length := by
  obtain ⟨pre, hp⟩ := List.getLast?_eq_some_iff.1 ht
  subst hp
  have := rd_last pre t h
  refine ⟨this, cwr _ (by omega) (by omega), by simp⟩
theorem lex_l0 (s : ByteArray) (hs : s.size ≤ 65536) (n : Nat) : ∀ (a : Int) (acc : List Tok) (k : Nat), 0 ≤ a → a ≤ (s.size : Int) → (acc.length : Int) ≤ a → (s.size : Int) - a < n → 700000 + n ≤ k →
    topiaryref12_Lex.l0 k s acc a = some (match lexF s n a acc with | some l => (l, 0) | none => ([], 15)) := by
  induction n with
  | zero => intro a acc k _ h1 _ h2 _; omega
  | succ n ih =>
    intro a acc k h0 h1 hl hn hk
    obtain ⟨k, rfl⟩ : ∃ j, k = j + 1 := ⟨k - 1, by omega⟩
    unfold topiaryref12_Lex.l0 lexF
    by_cases hlt : a < (s.size : Int)
    · obtain ⟨r, hr, hsame⟩ := piece_f s a hs h0 hlt k (by omega)
      rw [if_pos hlt, if_pos hlt, hr, Option.bind_some]
      cases hS : stepP s a with
      | none =>
        rw [hS] at hsame
        have : r.2 = false := hsame
        rw [this, if_neg (by decide)]
      | some v =>
        obtain ⟨new, a'⟩ := v
        rw [hS] at hsame
        obtain ⟨rfl, t, ht, hta⟩ := hsame
        have hroom := step_room s a h0 hlt new a' hS
        obtain ⟨e1, e2, e3⟩ := rd_end new t ht (by omega)
        rw [if_pos rfl]
        simp only
        rw [if_neg (by omega), if_pos (by omega), e1, if_pos (by omega), if_pos (by omega), hta]
        exact ih a' (acc ++ new) k (by omega) hroom.2.1 (by rw [List.length_append]; omega) (by omega) (by omega)
    · rw [if_neg hlt, if_neg hlt]
theorem ref_lex_f (s : ByteArray) (k : Nat) (hk : 900000 ≤ k) : topiaryref12_Lex.f k s = some (lexV s) := by
  unfold topiaryref12_Lex.f lexV
  by_cases c1 : (65536 : Int) < (s.size : Int)
  · rw [if_pos c1, if_pos c1]
  rw [if_neg c1, if_neg c1]
  obtain ⟨j, rfl⟩ : ∃ j, k = s.size + 50 + j := ⟨k - (s.size + 50), by omega⟩
  rw [ref_valid_f s (by omega) j, Option.bind_some]
  cases hv : validL s.data.toList with
  | false => rw [if_neg (by decide), if_pos rfl]
  | true =>
    rw [if_pos rfl, if_neg (by decide), lex_l0 s (by omega) (s.size + 1) 0 [] _ (by omega) (by omega) (by simp) (by omega) (by omega)]
    rfl
theorem same_l0 (l : List Tok) (hl : l.length ≤ 4294967296) (d : Nat) : ∀ (n k : Nat), l.length - n = d → n ≤ l.length → d + 1 ≤ k → topiaryref12_Same.l0 k l l n = some true := by
  induction d with
  | zero =>
    intro n k hd hn hk
    obtain ⟨k, rfl⟩ : ∃ j, k = j + 1 := ⟨k - 1, by omega⟩
    unfold topiaryref12_Same.l0
    rw [if_neg (by omega)]
  | succ d ih =>
    intro n k hd hn hk
    obtain ⟨k, rfl⟩ : ∃ j, k = j + 1 := ⟨k - 1, by omega⟩
    unfold topiaryref12_Same.l0
    rw [if_pos (by omega), if_pos (by omega), if_pos (by omega)]
    simp only [beq_self_eq_true, Bool.not_true, Bool.or_false, Bool.false_eq_true, if_false]
    rw [cwr _ (by omega) (by omega)]
    exact ih (n + 1) k (by omega) (by omega) (by omega)
theorem same_f (l : List Tok) (hl : l.length ≤ 800000) (k : Nat) (hk : 900000 ≤ k) : topiaryref12_Same.f k l l = some true := by
  unfold topiaryref12_Same.f
  rw [if_pos rfl]
  exact same_l0 l (by omega) l.length 0 k (by omega) (by omega) (by omega)
theorem lexF_len (s : ByteArray) (n : Nat) : ∀ (a : Int) (acc l : List Tok), 0 ≤ a → a ≤ (s.size : Int) → (acc.length : Int) ≤ a → lexF s n a acc = some l → (l.length : Int) ≤ (s.size : Int) := by
  induction n with
  | zero => intro a acc l _ _ _ h; cases h
  | succ n ih =>
    intro a acc l h0 h1 hl h
    unfold lexF at h
    by_cases hlt : a < (s.size : Int)
    · rw [if_pos hlt] at h
      cases hS : stepP s a with
      | none => rw [hS] at h; cases h
      | some v =>
        obtain ⟨new, a'⟩ := v
        rw [hS] at h
        have hroom := step_room s a h0 hlt new a' hS
        exact ih a' (acc ++ new) l (by omega) hroom.2.1 (by rw [List.length_append]; omega) h
    · rw [if_neg hlt] at h
      obtain rfl := Option.some.inj h
      omega
theorem lexV_len (s : ByteArray) : ((lexV s).1.length : Int) ≤ (s.size : Int) := by
  unfold lexV
  split
  · simp
  · split
    · simp
    · cases h : lexO s with
      | none => simp
      | some l => exact lexF_len s _ 0 [] l (by omega) (by omega) (by simp) h
end Go.Proofs.Ytekkaoenabjeiaa.P12
end
section
set_option linter.unusedVariables false
set_option linter.unusedSimpArgs false
namespace Go.Proofs.Ytekkaoenabjeiaa.Pure
open Go Go.RowKit Go.Proofs.Ytekkaoenabjeiaa Go.Proofs.Ytekkaoenabjeiaa.Q Go.Proofs.YtekkaoenabjeiaaW.PrintWords Go.Proofs.Ytekkaoenabjeiaa.X Go.Proofs.Ytekkaoenabjeiaa.P11 Go.Proofs.Ytekkaoenabjeiaa.P12
theorem awake12 : topiarylaw12_awake.f = some true := by kernel_rfl
theorem short12 (s : ByteArray) (n : Nat) : ∃ t : ByteArray, topiarylaw12_short.f s n = some t ∧ t.size ≤ n ∧ t.data.toList = s.data.toList.take n := by
  unfold topiarylaw12_short.f
  by_cases h : (s.size : Int) > n
  · rw [if_pos h, if_pos (by omega), if_pos (by omega)]
    refine ⟨_, rfl, ?_, ?_⟩
    · rw [Lib.size_eq, Lib.extract_data, List.length_take, List.length_drop]; omega
    · rw [Lib.extract_data]; simp
  · rw [if_neg h]
    exact ⟨s, rfl, by omega, by rw [List.take_of_length_le (by rw [← Lib.size_eq]; omega)]⟩
theorem LexerPieces : topiarylaw12_LexerPieces.Pure := by
  intro s hs
  obtain ⟨t, ht, hsz, _⟩ := short12 s 200
  rw [show ((200 : Nat) : Int) = 200 from rfl] at ht
  refine ⟨1000000, ?_⟩
  unfold topiarylaw12_LexerPieces.f
  have hl := lexV_len t
  rw [awake12, Option.bind_some, ht, Option.bind_some, lexer_Lex.f, if_pos (by omega), Option.bind_some, ref_lex_f t 1000000 (by omega), Option.bind_some, same_f _ (by omega) 1000000 (by omega), Option.bind_some, if_pos rfl, if_pos rfl, beq_self_eq_true]
end Go.Proofs.Ytekkaoenabjeiaa.Pure
end
