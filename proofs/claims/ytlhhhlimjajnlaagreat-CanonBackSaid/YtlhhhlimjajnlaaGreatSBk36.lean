/- Parts of the proof of canonBack_holds, kept and merged by a program of mine (wip/tools/slim.py) out of my texts: SmW -/
import Derived.Test.YtlhhhlimjajnlaaGreatSBk0
import Derived.Test.YtlhhhlimjajnlaaGreatSBk34
import Derived.Test.YtlhhhlimjajnlaaGreatSBk35
section
set_option linter.unusedVariables false
set_option linter.unusedSimpArgs false
namespace Go.Proofs.YtlhhhlimjajnlaaGreat.X
open Go.RowKit Go.Proofs.YtlhhhlimjajnlaaGreat Go.Proofs.YtlhhhlimjajnlaaGreat.Q Go.Proofs.YtlhhhlimjajnlaaGreatW.PrintWords Go.Proofs.YtlhhhlimjajnlaaGreatW.PrintLast Go.Proofs.YtlhhhlimjajnlaaGreatW.PrintMore
attribute [local go_sem] max2_int min2_int max_two min_two   
def cut20 (s : ByteArray) : ByteArray := (L4_short.f s 20).getD ⟨#[]⟩
theorem cut20_f (s : ByteArray) : L4_short.f s 20 = some (cut20 s) ∧ (cut20 s).size ≤ 20 := by
 unfold cut20 L4_short.f
 by_cases h : (s.size : Int) > 20
 ·rw [if_pos h, if_pos (by omega), if_pos (by omega)]
  exact ⟨rfl, by show (s.extract 0 20).size ≤ 20; rw [ByteArray.size_extract]; omega⟩
 ·rw [if_neg h]; exact ⟨rfl, by show s.size ≤ 20; omega⟩
def cutN (x : S41) : S41 := ⟨x.f0, x.f1, x.f2, cut20 x.f3⟩
def smallN (N : List ByteArray) : List ByteArray := (N.take 12).map cut20
def smallD (D : List S41) : List S41 := (D.take 30).map cutN
theorem small_facts (N : List ByteArray) (D : List S41) : ((smallN N).length ≤ 12 ∧ ∀ x, x ∈ smallN N → x.size ≤ 20) ∧ (smallD D).length ≤ 30 ∧ ∀ x, x ∈ smallD D → x.f3.size ≤ 20 := by
 refine ⟨⟨by unfold smallN; rw [List.length_map, List.length_take]; omega, fun x hx => ?_⟩, by unfold smallD; rw [List.length_map, List.length_take]; omega, fun x hx => ?_⟩
 ·obtain ⟨y, -, rfl⟩ := List.mem_map.1 hx; exact (cut20_f y).2
 ·obtain ⟨y, -, rfl⟩ := List.mem_map.1 hx; exact (cut20_f y.f3).2
theorem take_map {α β : Type} (f : α → β) {l : List α} {i : Nat} (h : i < l.length) (d : α) : (l.take (i + 1)).map f = (l.take i).map f ++ [f (l.getD i d)] := by
 rw [List.take_succ_eq_append_getElem h, List.map_append, List.getD_eq_getElem?_getD, List.getElem?_eq_getElem h]; rfl
section
variable {w0 W W1 : World} {g2 g4 : Nat} {v5 vN vD v1 : Value} {dl : List Int} {A A' : List ByteArray} {T : List Nod}
theorem Lm.name (h : Lm w0 W g2 g4 v5 vN vD dl A T) (hr : Kd.R Kd.string 9 W1 w0.heap.size (fun _ => True) v1 A') (hb : Below w0.heap.size w0 W1) (hg : W.grownBy W1 vN.ownBlock) : Lm w0 (W1.setCell ⟨g4, 0, none⟩ v1) g2 g4 v5 v1 vD dl A' T := by
 have b4 := blk_grown h.b4 hg (Kd.R_ne h.rn h.b4 (by decide))
 exact ⟨blk_far (blk_grown h.b2 hg (Kd.R_ne h.rn h.b2 (by decide))) h.ne _, blk_set b4 0 v1, Kd.R_set (Kd.R_over h.rd h.rn (by decide) hg) b4 (by decide) 0 _, Kd.R_set hr b4 (by decide) 0 _, Kd.R_set (Kd.R_over h.rt h.rn (by decide) hg) b4 (by decide) 0 _, hb.setCell h.l4 _, h.l2, h.l4, h.ne⟩
end
section
variable {N : List ByteArray} {D : List S41} {nn n c d : Nat} {w : World} {A B : Option Addr}
set_option maxHeartbeats 8000000 in
set_option maxRecDepth 100000 in
theorem small_c (hnn : N.length = nn) (hn : D.length = n) (hA : Kd.C Kd.string w A nn N) (hB : Kd.C k41 w B n D) :
 Calls Tryz.prog 16 #[.agg #[.slice A nn c, .slice B n d]] w fun e w' => ∃ v0 v1, e = .returned (.agg #[v0, v1]) ∧ Kd.R Kd.string 9 w' w.heap.size (fun _ => True) v0 (smallN N) ∧ Kd.R k41 41 w' w.heap.size (fun _ => True) v1 (smallD D) ∧ Below w.heap.size w w' := by
 have HN := Lib.hid hnn
 have HD := Lib.hid hn
 have hbx := blk_new w (.cells #[.slice A nn c, .slice B n d] 27)
 have hb := below_alloc (Below.refl w.heap.size w) (.cells #[.slice A nn c, .slice B n d] 27)
 have hsz : (w.alloc (.cells #[.slice A nn c, .slice B n d] 27)).heap.size = w.heap.size + 1 := by simp
 have HX := Lib.hid (fun W (hW : Below (w.alloc (.cells #[.slice A nn c, .slice B n d] 27)).heap.size (w.alloc (.cells #[.slice A nn c, .slice B n d] 27)) W) => blk_below hbx hW)
 have HC := Lib.hid (Kd.C_below hA hb)
 have HE := Lib.hid (Kd.C_below hB hb)
 have H0 : Lm (w.alloc (.cells #[.slice A nn c, .slice B n d] 27)) (((w.alloc (.cells #[.slice A nn c, .slice B n d] 27)).alloc (.cells #[.slice none 0 0, .slice none 0 0] 27)).alloc (.cells #[.slice none 0 0, .slice none 0 0] 27)) (w.heap.size + 1) (w.heap.size + 1 + 1) (.slice none 0 0) (.slice none 0 0) (.slice none 0 0) [] [] [] :=
  ⟨by have := blk_alloc (blk_new (w.alloc (.cells #[.slice A nn c, .slice B n d] 27)) (.cells #[.slice none 0 0, .slice none 0 0] 27)) (.cells #[.slice none 0 0, .slice none 0 0] 27); rw [hsz] at this; exact this, by have hbn := blk_new ((w.alloc (.cells #[.slice A nn c, .slice B n d] 27)).alloc (.cells #[.slice none 0 0, .slice none 0 0] 27)) (.cells #[.slice none 0 0, .slice none 0 0] 27); simpa using hbn, Kd.R_nil _ _ _ _ _, Kd.R_nil _ _ _ _ _, Kd.R_nil _ _ _ _ _, below_alloc (below_alloc (Below.refl _ _) _) _, by omega, by omega, by omega⟩
 have HZ := Lib.hid H0
 have HBA := Lib.hid hb
 clear H0 hbx hA hB hnn hn hb hsz
 go_enter Tryz.func16, Tryz.ntmps16
 go_wp2
 obtain ⟨wA, hwA⟩ : ∃ wA, w.alloc (.cells #[.slice A nn c, .slice B n d] 27) = wA := ⟨_, rfl⟩
 obtain ⟨g2, hg2⟩ : ∃ g2, w.heap.size + 1 = g2 := ⟨_, rfl⟩
 obtain ⟨g4, hg4⟩ : ∃ g4, g2 + 1 = g4 := ⟨_, rfl⟩
 simp only [hwA, hg2, hg4] at HX HC HE HZ HBA ⊢
 go_loopw [4] (fun v4 wr => ∃ (vN : Value) (i : Nat), i ≤ nn ∧ i ≤ 12 ∧ v4 = .int .i64 i ∧ Hid (Lm wA wr g2 g4 (.slice none 0 0) vN (.slice none 0 0) [] ((N.take i).map cut20) [])) (fun v4 wr => 12 - (intOf v4).toNat)
 case atStart => exact ⟨_, 0, by omega, by omega, rfl, HZ⟩
 case round =>
  clear HZ
  obtain ⟨vN, i, hi, hi2, rfl, HM⟩ := hrel
  obtain ⟨A6, c6, rfl⟩ := Kd.R_slice HM.out.rn
  have y0 := (blk_cell (HX.out _ HM.out.bel) 0).trans (show _ = some (Value.slice A nn c) from rfl)
  by_cases hlt : i < nn ∧ i < 12
  ·have hil : i < N.length := by have := HN.out; omega
   obtain ⟨ad, hA, r0⟩ := Kd.at_string HC.out (i : Int) (by omega) (by omega)
   subst hA
   have hrd : rdOf ByteArray.empty N (i : Int) = N.getD i ByteArray.empty := rfl
   rw [hrd, Int.toNat_natCast] at r0
   have hd := take_map cut20 hil ByteArray.empty
   obtain ⟨x, hx⟩ : ∃ x, N.getD i ByteArray.empty = x := ⟨_, rfl⟩
   rw [hx] at r0 hd
   have HTK := Lib.hid hd
   obtain ⟨A1, hA1⟩ : ∃ A1, (N.take i).map cut20 = A1 := ⟨_, rfl⟩
   have HI := Lib.hid (show A1.length ≤ 12 by rw [← hA1, List.length_map, List.length_take]; omega)
   rw [hA1] at HM HTK
   obtain ⟨m, hm⟩ : ∃ m, A1.length = m := ⟨_, rfl⟩
   rw [hm] at HM
   have HQ := Lib.hid (fun W (hW : Below wA.heap.size wA W) => (⟨(blk_cell (HX.out _ hW) 0).trans rfl, (hW.cell (World.block_lt_of_cell? wA _ r0)).trans r0⟩ : W.cell? ⟨w.heap.size, 0, none⟩ = some (.slice (some ad) nn c) ∧ W.cell? (ad.add i) = some (.string x)))
   have HS := Lib.hid (fun W (hL : Lm wA W g2 g4 (.slice none 0 0) (.slice A6 m c6) (.slice none 0 0) [] A1 []) => (⟨Lib.hid hL, (blk_cell hL.b4 0).trans rfl, HQ.out _ hL.bel⟩ : Hid (Lm wA W g2 g4 (.slice none 0 0) (.slice A6 m c6) (.slice none 0 0) [] A1 []) ∧ W.cell? ⟨g4, 0, none⟩ = some (.slice A6 m c6) ∧ W.cell? ⟨w.heap.size, 0, none⟩ = some (.slice (some ad) nn c) ∧ W.cell? (ad.add i) = some (.string x)))
   have p1 : ((0 : Int) ≤ (i : Int)) = True := eq_true (by omega)
   have p2 : ((i : Int) < (nn : Int)) = True := eq_true (by omega)
   have p3 : ((i : Int) < 12) = True := eq_true (by omega)
   have e1 : IntKind.i64.wrap ((i : Int) + 1) = ((i + 1 : Nat) : Int) := zz10
   have HLT := Lib.hid hlt
   clear hx hrd hil hlt hd hA1 hm r0
   go_wp2
   obtain ⟨HM0, t0, t1, t2⟩ := HS.out _ HM.out.drew
   refine start_ (n := 12) (S := fun w' => w'.cell? ⟨g4, 0, none⟩ = some (.slice A6 m c6) ∧ w'.cell? ⟨w.heap.size, 0, none⟩ = some (.slice (some ad) nn c) ∧ w'.cell? (ad.add i) = some (.string x)) (ds := [11]) #[false, false, false, false, false, false, false, false, false, false, false, false] (by kernel_rfl) rfl rfl ⟨t0, t1, t2⟩ (fun hHeld => ?_)
   generalize wr.drew = w14 at HM0 t0 t1 t2 hHeld ⊢
   clear HM y0
   refine pure_ (i := 0) (N := some 18) (v := ?_) (a' := ?_) #[true, false, false, false, false, false, false, false, false, false, false, false] rfl rfl (by kernel_rfl) (fun _ _ _ h => h) (Or.inl ⟨by rfl, ?hy⟩) ?ha ?_
   (case hy => intro w'; go_simp; with_reducible rfl)
   (case ha => simp only [Act.put, List.setIfInBounds_toArray, List.set_cons_zero, List.set_cons_succ]; rfl)
   refine pure_ (i := 2) (N := some 20) (v := ?_) (a' := ?_) #[true, false, true, false, false, false, false, false, false, false, false, false] rfl rfl (by kernel_rfl) (fun _ _ _ h => h) (Or.inl ⟨by rfl, ?hy⟩) ?ha ?_
   (case hy => intro w'; go_simp; with_reducible rfl)
   (case ha => simp only [Act.put, List.setIfInBounds_toArray, List.set_cons_zero, List.set_cons_succ]; rfl)
   refine pure_ (i := 4) (N := some 22) (v := ?_) (a' := ?_) #[true, false, true, false, true, false, false, false, false, false, false, false] rfl rfl (by kernel_rfl) (fun _ _ _ h => h) (Or.inl ⟨by rfl, ?hy⟩) ?ha ?_
   (case hy => intro w'; go_simp; with_reducible rfl)
   (case ha => simp only [Act.put, List.setIfInBounds_toArray, List.set_cons_zero, List.set_cons_succ]; rfl)
   refine take_ (i := 1) (N := some 19) (v := ?_) (a' := ?_) #[true, true, true, false, true, false, false, false, false, false, false, false] rfl rfl (by kernel_rfl) (fun _ _ _ h => h) (Or.inl ⟨by rfl, ?hy⟩) hHeld ?ha ?_
   (case hy => rintro w' ⟨s0, s1, s2⟩; go_simp; with_reducible rfl)
   (case ha => simp only [Act.put, List.setIfInBounds_toArray, List.set_cons_zero, List.set_cons_succ]; rfl)
   refine take_ (i := 3) (N := some 21) (v := ?_) (a' := ?_) #[true, true, true, true, true, false, false, false, false, false, false, false] rfl rfl (by kernel_rfl) (fun _ _ _ h => h) (Or.inl ⟨by rfl, ?hy⟩) hHeld ?ha ?_
   (case hy => rintro w' ⟨s0, s1, s2⟩; go_simp; with_reducible rfl)
   (case ha => simp only [Act.put, List.setIfInBounds_toArray, List.set_cons_zero, List.set_cons_succ]; rfl)
   refine pure_ (i := 5) (N := some 23) (v := ?_) (a' := ?_) #[true, true, true, true, true, true, false, false, false, false, false, false] rfl rfl (by kernel_rfl) (fun _ _ _ h => h) (Or.inl ⟨by rfl, ?hy⟩) ?ha ?_
   (case hy => intro w'; go_simp; with_reducible rfl)
   (case ha => simp only [Act.put, List.setIfInBounds_toArray, List.set_cons_zero, List.set_cons_succ]; rfl)
   refine take_ (i := 6) (N := some 24) (v := ?_) (a' := ?_) #[true, true, true, true, true, true, true, false, false, false, false, false] rfl rfl (by kernel_rfl) (fun _ _ _ h => h) (Or.inl ⟨by rfl, ?hy⟩) hHeld ?ha ?_
   (case hy => rintro w' ⟨s0, s1, s2⟩; go_simp; with_reducible rfl)
   (case ha => simp only [Act.put, List.setIfInBounds_toArray, List.set_cons_zero, List.set_cons_succ]; rfl)
   refine one_ (i := 7) (N := some 25) #[true, true, true, true, true, true, true, true, false, false, false, false] rfl rfl (by kernel_rfl) (by decide) (fun K hK => ?_)
   refine goes_ Tryz.func21 (by kernel_rfl) rfl #[.string x, .int .i64 20] (by rfl) rfl rfl (by (try simp only [List.map_toArray, List.map_cons, List.map_nil]); first | done | rfl) ?_
   refine (L4_short.calls x 20 (cut20 x) _ (cut20_f x).1).mono ?_
   rintro e w' ⟨rfl, nd, rfl⟩
   refine ⟨_, rfl, ?_⟩
   obtain ⟨HM1, t0, t1, t2⟩ := HS.out _ (HM0.out.drewN nd)
   refine hK.out _ _ ⟨t0, t1, t2⟩ (fun hHeld => ?_)
   clear hK K
   refine norm_ (a' := ?_) ?ha ?_
   (case ha => show Act.put _ (some 25) _ = _; simp only [Act.put, List.setIfInBounds_toArray, List.set_cons_zero, List.set_cons_succ]; rfl)
   refine one_ (i := 8) (N := some 26) #[true, true, true, true, true, true, true, true, true, false, false, false] rfl rfl (by kernel_rfl) (by decide) (fun K hK => ?_)
   refine value_ (w1 := ?_) (v := ?_) (by rfl) rfl ?hr ?_
   (case hr => go_simp; constructor <;> rfl)
   obtain ⟨HM2, t0, t1, t2⟩ := HS.out _ (HM1.out.alloc (.cells #[.string (cut20 x)] 9))
   refine hK.out _ _ ⟨t0, t1, t2⟩ (fun hHeld => ?_)
   clear hK K
   refine norm_ (a' := ?_) ?ha ?_
   (case ha => show Act.put _ (some 26) _ = _; simp only [Act.put, List.setIfInBounds_toArray, List.set_cons_zero, List.set_cons_succ]; rfl)
   refine one_ (i := 9) (N := some 27) #[true, true, true, true, true, true, true, true, true, true, false, false] rfl rfl (by kernel_rfl) (by decide) (fun K hK => ?_)
   refine Kd.R_append_step Kd.string (w0 := wA) wA.heap.size (by rfl) (.tmp 19) (.tmp 26) 24 9 (.string ⟨#[]⟩) 16 rfl Tryz.underlying24 info9 rfl (by decide) (by omega) (.slice A6 m c6) A1 (cut20 x) [.string (cut20 x)] (fun _ => True) (fun _ => False) rfl rfl ?aP (fun _ hk => hk.elim) (fun _ _ => trivial) ?aO ?aB ?aS ?aL ?_
   (case aP => rfl)
   (case aO => exact HM1.out.rn)
   (case aB => exact HM1.out.bel)
   (case aS => exact HM1.out.bel.size)
   (case aL => have := HI.out; omega)
   intro v1 w2 ho hb hg hat
   obtain ⟨A8, c8, rfl⟩ := Kd.R_slice ho
   obtain ⟨l8, hl8⟩ : ∃ l8, (A1 ++ [cut20 x]).length = l8 := ⟨_, rfl⟩
   rw [hl8] at ho hat ⊢
   have b4 := blk_grown HM1.out.b4 hg (Kd.R_ne HM1.out.rn HM1.out.b4 (by decide))
   have HM3 := Lib.hid (HM1.out.name ho hb hg)
   have HF := Lib.hid (blk_frozen b4 0)
   obtain ⟨t1, t2⟩ := HQ.out _ hb
   have t0 := (blk_cell b4 0).trans (show _ = some (Value.slice A6 m c6) from rfl)
   refine hK.out _ _ ⟨t0, t1, t2⟩ (fun hHeld => ?_)
   clear hK K ho hb hg hat hl8 b4
   refine norm_ (a' := ?_) ?ha ?_
   (case ha => show Act.put _ (some 27) _ = _; simp only [Act.put, List.setIfInBounds_toArray, List.set_cons_zero, List.set_cons_succ]; rfl)
   refine pure_ (i := 10) (N := some 28) (v := ?_) (a' := ?_) #[true, true, true, true, true, true, true, true, true, true, true, false] rfl rfl (by kernel_rfl) (fun _ _ _ h => h) (Or.inl ⟨by rfl, ?hy⟩) ?ha ?_
   (case hy => intro w'; go_simp; with_reducible rfl)
   (case ha => simp only [Act.put, List.setIfInBounds_toArray, List.set_cons_zero, List.set_cons_succ]; rfl)
   refine last_ (i := 11) (N := none) #[true, true, true, true, true, true, true, true, true, true, true, true] rfl rfl (by kernel_rfl) (by decide) (fun K hK => ?_)
   have y9 := HF.out
   refine skip_ (w1 := ?_) (by rfl) rfl ?hr ?_
   (case hr => go_simp; rfl)
   refine hK.out _ _ ?_
   clear hK K
   refine done_ (by kernel_rfl) ?_
   try go_wp2
   have := HLT.out
   exact ⟨⟨_, i + 1, by omega, by omega, by first | rfl | go_num, by rw [HTK.out]; exact HM3⟩, by simp [intOf]; omega⟩
  have hA1 : (N.take i).map cut20 = smallN N := by
   unfold smallN
   have := HN.out
   by_cases h : i = 12
   ·rw [h]
   ·rw [List.take_of_length_le (by omega), List.take_of_length_le (by omega)]
  have hq : (((i : Int) < (nn : Int)) = False) ∨ (((i : Int) < (nn : Int)) = True ∧ ((i : Int) < 12) = False) := by
   by_cases h : i < nn
   ·exact .inr ⟨eq_true (by omega), eq_false (by omega)⟩
   ·exact .inl (eq_false (by omega))
  obtain ⟨m, hm⟩ : ∃ m, ((N.take i).map cut20).length = m := ⟨_, rfl⟩
  rw [hm, hA1] at HM
  clear hlt hA1 hm
  rcases hq with p2 | ⟨p2, p3⟩
  all_goals
   go_wp2
   clear y0 p2
   go_loopw [5] (fun v5 wr => ∃ (vD : Value) (j : Nat), j ≤ n ∧ j ≤ 30 ∧ v5 = .int .i64 j ∧ Hid (Lm wA wr g2 g4 (.slice none 0 0) (.slice A6 m c6) vD [] (smallN N) ((D.take j).map cutN))) (fun v5 wr => 30 - (intOf v5).toNat)
   case atStart => exact ⟨_, 0, by omega, by omega, rfl, HM⟩
   case round =>
    clear HM
    obtain ⟨vD, j, hj, hj2, rfl, HM⟩ := hrel
    obtain ⟨A7, c7, rfl⟩ := Kd.R_slice HM.out.rt
    have y0 := (blk_cell (HX.out _ HM.out.bel) 1).trans (show _ = some (Value.slice B n d) from rfl)
    by_cases hlt : j < n ∧ j < 30
    ·have hil : j < D.length := by have := HD.out; omega
     obtain ⟨bd, hBd, r0, r1, r2, r3⟩ := at_T41 (Kd.C_below HE.out HM.out.bel) (j : Int) (by omega) (by omega)
     subst hBd
     have hrd : rd_T41 D (j : Int) = D.getD j z41 := rfl
     rw [hrd, Int.toNat_natCast] at r0 r1 r2 r3
     have hd := take_map cutN hil z41
     obtain ⟨x, hx⟩ : ∃ x, D.getD j z41 = x := ⟨_, rfl⟩
     rw [hx] at r0 r1 r2 r3 hd
     have HTK := Lib.hid hd
     obtain ⟨A1, hA1⟩ : ∃ A1, (D.take j).map cutN = A1 := ⟨_, rfl⟩
     have HI := Lib.hid (show A1.length ≤ 30 by rw [← hA1, List.length_map, List.length_take]; omega)
     rw [hA1] at HM HTK
     obtain ⟨l7, hl7⟩ : ∃ l7, A1.length = l7 := ⟨_, rfl⟩
     rw [hl7] at HM
     obtain ⟨s, hs⟩ : ∃ s, cut20 x.f3 = s := ⟨_, rfl⟩
     have hxc : cutN x = ⟨x.f0, x.f1, x.f2, s⟩ := by rw [← hs]; rfl
     rw [hxc] at HTK
     have HSH := Lib.hid (fun W => L4_short.calls x.f3 20 s W (hs ▸ (cut20_f x.f3).1))
     have hM1 := Lib.hid (HM.out.alloc (.cells #[.int .i64 x.f0, .int .i64 x.f1, .int .i64 x.f2, .string x.f3] 41))
     have hB1 := Lib.hid (blk_new wr (.cells #[.int .i64 x.f0, .int .i64 x.f1, .int .i64 x.f2, .string x.f3] 41))
     have z0 := (blk_cell hB1.out 3).trans (show _ = some (Value.string x.f3) from rfl)
     have p1 : ((0 : Int) ≤ (j : Int)) = True := eq_true (by omega)
     have p2 : ((j : Int) < (n : Int)) = True := eq_true (by omega)
     have p3 : ((j : Int) < 30) = True := eq_true (by omega)
     have e1 : IntKind.i64.wrap ((j : Int) + 1) = ((j + 1 : Nat) : Int) := zz10
     have HLT := Lib.hid hlt
     clear hx hrd hil hlt hd hA1 hl7 hs hxc
     go_wp2_with (first | (go_at_call 21; refine (HSH.out _).mono ?_; rintro e w2 ⟨rfl, nd, rfl⟩; have HB2 := Lib.hid (blk_drewN hB1.out nd); have y1 := blk_frozen HB2.out 3; have HM2 := Lib.hid (hM1.out.drewN nd)) | ((with_reducible refine gate_store (t := 9) (p := 48) rfl ?_); refine store_event (t := 9) (p := 48) (v := ?vo) (w1 := (((wr.alloc (.cells #[.int .i64 x.f0, .int .i64 x.f1, .int .i64 x.f2, .string x.f3] 41)).drewN nd).setCell ⟨wr.heap.size, 3, none⟩ (.string s))) ?hg ?ho ?hn ?hr ?_; (case ho => rfl); (case hg => rfl); (case hn => rfl); (case hr => (first | (go_simp; done) | (go_simp; rfl))); intro w4 hw4; have hk := blk_set HB2.out 3 (.string s); have hM3 := HM.out.step ((pw_below_drewN (below_alloc (Below.refl wr.heap.size wr) (.cells #[.int .i64 x.f0, .int .i64 x.f1, .int .i64 x.f2, .string x.f3] 41)) nd).setCell (p := ⟨wr.heap.size, 3, none⟩) (Nat.le_refl _) (.string s)); rw [← hw4] at hk hM3; clear hw4; have HM3 := Lib.hid hM3; have t0 := (blk_cell hk 0).trans (show _ = some (Value.int .i64 x.f0) from rfl); have t1 := (blk_cell hk 1).trans (show _ = some (Value.int .i64 x.f1) from rfl); have t2 := (blk_cell hk 2).trans (show _ = some (Value.int .i64 x.f2) from rfl); have t3 := (blk_cell hk 3).trans (show _ = some (Value.string s) from rfl); have t4 := (blk_cell HM3.out.b4 1).trans (show _ = some (Value.slice A7 l7 c7) from rfl); clear hk hM3) | (at_builtin; refine app_n ⟨x.f0, x.f1, x.f2, s⟩ (.tmp 50) (.tmp 52) rfl rfl rfl rfl HM3.out.rt HM3.out.bel (by have := HI.out; omega) ?_; intro v1 w5 ho hb hg; obtain ⟨A8, c8, e8⟩ := Kd.R_slice ho; obtain ⟨l8, hl8⟩ : ∃ l8, (A1 ++ [(⟨x.f0, x.f1, x.f2, s⟩ : Nod)]).length = l8 := ⟨_, rfl⟩; rw [hl8] at e8; subst e8; clear hl8; have b4 := blk_grown HM3.out.b4 hg (Kd.R_ne HM3.out.rt HM3.out.b4 (by decide)); have y2 := (blk_cell b4 1).trans (show _ = some (Value.slice A7 l7 c7) from rfl); have y3 := blk_frozen b4 1; have HM4 := Lib.hid (HM3.out.tree ho hb hg); clear ho hb hg b4))
     have := HLT.out
     go_roundw
     case rel => exact ⟨_, j + 1, by omega, by omega, by first | rfl | go_num, by rw [HTK.out]; exact HM4⟩
     case measure => simp [intOf]; omega
    have hA1 : (D.take j).map cutN = smallD D := by
     unfold smallD
     have := HD.out
     by_cases h : j = 30
     ·rw [h]
     ·rw [List.take_of_length_le (by omega), List.take_of_length_le (by omega)]
    have hq : (((j : Int) < (n : Int)) = False) ∨ (((j : Int) < (n : Int)) = True ∧ ((j : Int) < 30) = False) := by
     by_cases h : j < n
     ·exact .inr ⟨eq_true (by omega), eq_false (by omega)⟩
     ·exact .inl (eq_false (by omega))
    obtain ⟨l7, hl7⟩ : ∃ l7, ((D.take j).map cutN).length = l7 := ⟨_, rfl⟩
    rw [hl7, hA1] at HM
    have y1 := (blk_cell HM.out.b4 0).trans (show _ = some (Value.slice A6 m c6) from rfl)
    have y2 := (blk_cell HM.out.b4 1).trans (show _ = some (Value.slice A7 l7 c7) from rfl)
    have y3 := blk_frozen HM.out.b2 0
    have y4 := blk_frozen HM.out.b2 1
    have y5 := (blk_cell HM.out.b2 0).trans (show _ = some (Value.slice none 0 0) from rfl)
    have y6 := (blk_cell HM.out.b2 1).trans (show _ = some (Value.slice none 0 0) from rfl)
    clear hlt hA1 hl7
    rcases hq with p2 | ⟨p2, p3⟩
    all_goals
     go_wp2
     refine bodyPost_ret (results_cell_row rfl _ _ g2 27 #[.slice A6 m c6, .slice A7 l7 c7] (0, 0) _ rfl (blk_set (blk_set HM.out.b2 0 (.slice A6 m c6)) 1 (.slice A7 l7 c7)) Tryz.underlying27 rfl (by kernel_rfl)) rfl ?_
     exact ⟨_, _, rfl, Kd.R_lower (Kd.R_set (Kd.R_set HM.out.rn HM.out.b2 (by decide) 0 _) (blk_set HM.out.b2 0 _) (by decide) 1 _) HBA.out.size, Kd.R_lower (Kd.R_set (Kd.R_set HM.out.rt HM.out.b2 (by decide) 0 _) (blk_set HM.out.b2 0 _) (by decide) 1 _) HBA.out.size, below_step HBA.out ((HM.out.bel.setCell HM.out.l2 _).setCell HM.out.l2 _)⟩
end
end Go.Proofs.YtlhhhlimjajnlaaGreat.X
end
