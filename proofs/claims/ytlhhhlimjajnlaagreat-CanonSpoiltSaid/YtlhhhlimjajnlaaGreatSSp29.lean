/- Parts of the proof of canonSpoilt_holds, kept and merged by a program of mine (wip/tools/slim.py) out of my texts: ParL -/
import Derived.Test.YtlhhhlimjajnlaaGreatSSp0
import Derived.Test.YtlhhhlimjajnlaaGreatSSp27
import Derived.Test.YtlhhhlimjajnlaaGreatSSp28
section
set_option linter.unusedVariables false
set_option linter.unusedSimpArgs false
namespace Go.Proofs.YtlhhhlimjajnlaaGreat.X
open Go.RowKit Go.Maps Go.Sort Go.Proofs.YtlhhhlimjajnlaaGreat Go.Proofs.YtlhhhlimjajnlaaGreat.Q Go.Proofs.YtlhhhlimjajnlaaGreatW.PrintWords Go.Proofs.YtlhhhlimjajnlaaGreatW.PrintLast Go.Proofs.YtlhhhlimjajnlaaGreatW.PrintMore
attribute [local go_sem] max2_int min2_int max_two min_two   
def W4 (w : World) (g : Nat) : World := (((w.alloc (.cells #[.pointer (some ⟨g, 0, none⟩)] 46)).alloc (.cells #[.slice none 0 0, .slice none 0 0] 27)).alloc (.map #[] 0)).alloc (.cells #[.map (some (w.heap.size + 2))] 95)
theorem J1_start {w0 w : World} {g : Nat} {v1 v2 v3 : Value} {p : PS} (h : Bd w0 w g v1 v2 v3 p) : J1 w0 w (W4 w g) g (w.heap.size + 3) w.heap.size (w.heap.size + 2) v1 v2 v3 p 0 (W4 w g) := by
 have hb : Below w.heap.size w (W4 w g) := below_alloc (below_alloc (below_alloc (below_alloc (Below.refl _ _) _) _) _) _
 have e1 : (w.alloc (.cells #[.pointer (some ⟨g, 0, none⟩)] 46)).heap.size = w.heap.size + 1 := by simp
 have e2 : ((w.alloc (.cells #[.pointer (some ⟨g, 0, none⟩)] 46)).alloc (.cells #[.slice none 0 0, .slice none 0 0] 27)).heap.size = w.heap.size + 2 := by simp
 have e3 : (((w.alloc (.cells #[.pointer (some ⟨g, 0, none⟩)] 46)).alloc (.cells #[.slice none 0 0, .slice none 0 0] 27)).alloc (.map #[] 0)).heap.size = w.heap.size + 3 := by simp
 have k1 : (W4 w g).heap[w.heap.size]? = some (.cells #[.pointer (some ⟨g, 0, none⟩)] 46 (0, 0)) := blk_alloc (blk_alloc (blk_alloc (blk_new w _) _) _) _
 have k4 : (W4 w g).heap[w.heap.size + 3]? = some (.cells #[.map (some (w.heap.size + 2))] 95 (0, 0)) := by rw [← e3]; exact blk_new _ _
 have hm := World.ownsMap_made ((w.alloc (.cells #[.pointer (some ⟨g, 0, none⟩)] 46)).alloc (.cells #[.slice none 0 0, .slice none 0 0] 27)) Tryz.prog 9 RI
 rw [e2] at hm
 have hm4 := hm.alloc (.cells #[.map (some (w.heap.size + 2))] 95)
 exact ⟨(blk_cell k1 0).trans rfl, (blk_cell k4 0).trans rfl, h.below hb, hm4, owns_no hm4, hb, Nat.le_refl _, fun _ _ _ => rfl⟩
theorem J1.below {w0 w Ws W W' : World} {g nb bb mb k : Nat} {v1 v2 v3 : Value} {p : PS} (h : J1 w0 w Ws g nb bb mb v1 v2 v3 p k W) (hb : Below W.heap.size W W') : J1 w0 w Ws g nb bb mb v1 v2 v3 p k W' := by
 obtain ⟨j1, j2, j3, j4, j5, j6, j7, j8⟩ := h
 have g1 := W.block_lt_of_cell? _ j1
 have g2 := W.block_lt_of_cell? _ j2
 have gr : W.grownBy W' none := ⟨hb.os, hb.tape, hb.output, hb.size, fun k hk _ => hb.block k hk⟩
 have j4' := j4.kept gr (by simp)
 exact ⟨(hb.cell g1).trans j1, (hb.cell g2).trans j2, j3.below hb, j4', owns_no j4', below_step j6 hb, Nat.le_trans j7 hb.size, fun b h1 h2 => (hb.block b (by omega)).trans (j8 b h1 h2)⟩
theorem J1.tree {w0 w W : World} {g nb bb k : Nat} {v1 v2 v3 : Value} {p : PS} (h : J1 w0 w (W4 w g) g nb bb (w.heap.size + 1 + 1) v1 v2 v3 p k W) : W.heap[w.heap.size + 1]? = some (.cells #[.slice none 0 0, .slice none 0 0] 27 (0, 0)) := by
 have e1 : (w.alloc (.cells #[.pointer (some ⟨g, 0, none⟩)] 46)).heap.size = w.heap.size + 1 := by simp
 have k2 : (W4 w g).heap[w.heap.size + 1]? = some (.cells #[.slice none 0 0, .slice none 0 0] 27 (0, 0)) := by
  refine blk_alloc (blk_alloc ?_ _) _
  rw [← e1]; exact blk_new _ _
 rw [h.2.2.2.2.2.2.2 _ (blk_lt k2) (by omega)]; exact k2
theorem row_names {w6 : World} {base : Nat} {v : Value} {ss : List (List UInt8)} (ks : List (List UInt8)) (hm : (ss.mergeSort fun x y => decide (x ≤ y)) = sortedP ks) (hlen : ss.length = (sortedP ks).length) (hrow : w6.ownsRow base 9 1 v ss.length ((ss.mergeSort fun x y => decide (x ≤ y)).map encStr)) :
 Kd.R Kd.string 9 w6 base (fun _ => True) v ((sortedP ks).map bytesL) := by
 rw [hm, hlen] at hrow
 have : w6.ownsRow base 9 1 v ((sortedP ks).map bytesL).length (encs Value.string ((sortedP ks).map bytesL)) := by
  rw [List.length_map]
  have e : (sortedP ks).map encStr = encs Value.string ((sortedP ks).map bytesL) := by
   unfold encs
   rw [List.map_map]; rfl
  rw [← e]; exact hrow
 exact Kd.R_of_own (h1 := fun _ => rfl) this (fun _ _ => trivial)
def J2 (w0 w : World) (g nb bb mb tb : Nat) (v1 v2 v3 vN : Value) (p : PS) (names : List (List UInt8)) (k : Nat) (W : World) : Prop :=
 ∃ D, W.cell? ⟨bb, 0, none⟩ = some (.pointer (some ⟨g, 0, none⟩)) ∧ W.cell? ⟨nb, 0, none⟩ = some (.map (some mb)) ∧ Bd w0 W g v1 v2 v3 p ∧ W.ownsMap Tryz.prog 9 RI mb (p.n.length + k) D ∧
  (∀ j, j < k → ∀ z, D.atKey (.string (names.getD j [])) z = .lit (.int .i64 j)) ∧ W.heap[tb]? = some (.cells #[.slice none 0 0, .slice none 0 0] 27 (0, 0)) ∧
  Kd.R Kd.string 9 W w0.heap.size (fun _ => True) vN (names.map bytesL) ∧ Below w.heap.size w W
theorem wf_small (k : Nat) (hk : k ≤ 900000) : (Lit.int .i64 (k : Int)).wf = true := by
 show (decide (IntKind.i64.min ≤ (k : Int)) && decide ((k : Int) ≤ IntKind.i64.max)) = true
 rw [show IntKind.i64.min = -9223372036854775808 from rfl, show IntKind.i64.max = 9223372036854775807 from rfl, Bool.and_eq_true, decide_eq_true_eq, decide_eq_true_eq]
 omega
theorem J2_step {w0 w W : World} {g nb bb mb tb k : Nat} {v1 v2 v3 vN : Value} {p : PS} {names : List (List UInt8)} (h : J2 w0 w g nb bb mb tb v1 v2 v3 vN p names k W) (hk : k < names.length) (hnd : names.Nodup) (hx : ∀ s, s ∈ names → s.length ≤ maxLen) (hl : p.n.length ≤ 900000) (hkl : k ≤ 900000) (hw : w0.heap.size ≤ w.heap.size) (hmb : w.heap.size ≤ mb) (hnb : nb ≠ mb) (hbb : bb ≠ mb) :
 ∃ W', (Instr.mapUpdate 95 (.map (some mb)) (.string (bytesL (names.getD k []))) (.int .i64 k)).run Tryz.prog W = .ok () W' ∧ J2 w0 w g nb bb mb tb v1 v2 v3 vN p names (k + 1) W' := by
 obtain ⟨D, j1, j2, j3, j4, j5, j6, j7, j8⟩ := h
 have hm : names.getD k [] ∈ names := by
  rw [List.getD_eq_getElem?_getD, List.getElem?_eq_getElem hk]; exact List.getElem_mem _
 have hsz : (bytesL (names.getD k [])).size ≤ maxLen := by
  have := hx _ hm
  rw [Lib.size_eq]; exact this
 have hkey : keyOf Tryz.prog 9 (.string (bytesL (names.getD k []))) = some (.string (names.getD k [])) := WideMaps.keyOf_string_mk (P := Tryz.prog) Tryz.underlying9 hsz
 obtain ⟨W', hrun, ho, hg⟩ := World.ownsMap.update (d := .lit (.int .i64 k)) (ps := []) j4 KS Tryz.underlying95 (by unfold maxLen; omega) hkey (plainElem_int Tryz.underlying3 (wf_small k hkl))
 have hno := owns_no j4
 refine ⟨W', hrun, D.put (.string (names.getD k [])) (.lit (.int .i64 k)), ?_, ?_, ?_, ?_, ?_, ?_, ?_, ?_⟩
 ·exact hg.cell j1 (by simpa using hbb)
 ·exact hg.cell j2 (by simpa using hnb)
 ·exact Bd.grownM j3 hg hno (Below.grown j3.bel hg j3.bel.size (fun k hk => by injection hk with hk; omega))
 ·exact ho
 ·intro j hj z
  by_cases hjk : j = k
  ·subst hjk
   exact atKey_put_same j4.isMap (show WideAt.IsKeyLit (Lit.string _) from True.intro) _ _
  ·rw [atKey_put_other]
   ·exact j5 j (by omega) z
   ·intro e
    injection e with e
    rw [List.getD_eq_getElem?_getD, List.getD_eq_getElem?_getD, List.getElem?_eq_getElem hk, List.getElem?_eq_getElem (by omega)] at e
    exact absurd e (List.pairwise_iff_getElem.1 hnd j k (by omega) hk (by omega))
 ·exact blk_grown j6 hg (fun e => by injection e with e; subst e; exact hno _ _ _ j6)
 ·exact R_grownM hg hno j7 rfl
 ·exact Below.grown j8 hg j8.size (fun k hk => by injection hk with hk; omega)
set_option maxHeartbeats 8000000 in
set_option maxRecDepth 100000 in
theorem tree_yes {w0 w : World} {g : Nat} {v1 v2 v3 : Value} {p : PS} (h : Bd w0 w g v1 v2 v3 p) (hl : p.n.length ≤ 900000) (hs : p.s.length = p.n.length) (hx : ∀ s, s ∈ p.s → s.size ≤ maxLen) (hw : p.wr = false) (ho : p.o.length = 0) (hn : 0 < p.n.length) :
 Calls Tryz.prog 31 #[.pointer (some ⟨g, 0, none⟩)] w fun e w' => ∃ u1 u2, e = .returned (.tuple #[.agg #[u1, u2], .int .i64 (treeP p).2]) ∧ Kd.R Kd.string 9 w' w0.heap.size (fun _ => True) u1 (treeP p).1.1 ∧ Kd.R k41 41 w' w0.heap.size (fun _ => True) u2 (treeP p).1.2 ∧ Below w0.heap.size w0 w' := by
 obtain ⟨ga, c1, rfl, -, -, -⟩ := Kd.R_form h.r1 hn
 obtain ⟨gn, c2, rfl, -, -, -⟩ := Kd.R_form h.r2 (by omega)
 obtain ⟨A3, c3, rfl, -, -⟩ := Kd.R_reads h.r3
 obtain ⟨L1, hL1⟩ : ∃ L, p.n.length = L := ⟨_, rfl⟩
 have hB2 : ∀ o o' : Obj, Below w.heap.size w ((w.alloc o).alloc o') := fun o o' => below_alloc (below_alloc (Below.refl w.heap.size w) o) o'
 have h0 : ∀ o o' : Obj, ((w.alloc o).alloc o').cell? ⟨g, 0, none⟩ = some (.slice (some ⟨ga, 0, none⟩) L1 c1) := fun o o' => by rw [← hL1]; exact (h.below (hB2 o o')).c0
 have h2 : ∀ o o' : Obj, ((w.alloc o).alloc o').cell? ⟨g, 2, none⟩ = some (.slice A3 0 c3) := fun o o' => by rw [← ho]; exact (h.below (hB2 o o')).c2
 have h5 : ∀ o o' : Obj, ((w.alloc o).alloc o').cell? ⟨g, 5, none⟩ = some (.bool false) := fun o o' => by rw [← hw]; exact (h.below (hB2 o o')).c5
 have e3 : ((L1 : Int) == 0) = false := by rw [beq_eq_false_iff_ne]; omega
 have e4 : ¬ L1 = 0 := by omega
 have hJ := fill_c (w0 := w0) (w := w) (Ws := W4 w g) (g := g) (nb := w.heap.size + 1 + 1 + 1) (bb := w.heap.size) (mb := w.heap.size + 1 + 1) (ga := ga) (gn := gn) (c1 := c1) (c2 := c2) (p := p) (by omega) hs hx h.bel.size (by omega) (by omega) (by omega) (J1_start h)
 have HJ := Lib.hid hJ
 have hmm := @run_makeMap Tryz.prog
 have hz : (p.n.zip p.s).length = p.n.length := by rw [List.length_zip]; omega
 have HK := Lib.hid (show keysTo p p.n.length = (namesOf p).map Lit.string by rw [← hz]; exact keysTo_all p)
 have HL := Lib.hid (show p.n.length ≤ 900000 from hl)
 have HW0 := Lib.hid h.bel.size
 have HGA := Lib.hid (show ga < w.heap.size from Kd.R_lt h.r1 ga (by simp [Value.ownBlock]))
 have HLL := Lib.hid hL1
 obtain ⟨K, hK⟩ : ∃ K, (sortedP (namesOf p)).length = K := ⟨_, rfl⟩
 have HKK := Lib.hid hK
 clear h hJ hB2 hz
 by_cases hlim : p.dp = true ∨ 5000 < L1 ∨ 1000 < K
 ·have hT : treeP p = (([], []), 18) := by
   unfold treeP
   rw [hw, ho, hL1, hK, if_neg (by rintro (h | h | h); exact absurd h (by decide); omega; omega), if_pos hlim]
  rw [hT]
  have hcase : p.dp = true ∨ (p.dp = false ∧ 5000 < L1) ∨ (p.dp = false ∧ ¬ 5000 < L1 ∧ 1000 < K) := by
   by_cases hd : p.dp = true
   ·exact Or.inl hd
   ·have hd' : p.dp = false := by simpa using hd
    by_cases h5' : 5000 < L1
    ·exact Or.inr (Or.inl ⟨hd', h5'⟩)
    ·rcases hlim with h | h | h
     ·exact absurd h hd
     ·exact absurd h h5'
     ·exact Or.inr (Or.inr ⟨hd', h5', h⟩)
  clear hlim hl hs hx hw ho hT hL1 hK
  rcases hcase with hd | ⟨hd, hq⟩ | ⟨hd, hq, hr⟩
  ·have HD := Lib.hid hd
   clear hd
   go_enter Tryz.func31, Tryz.ntmps31
   go_wp2_with (first | (go_at_call 60; refine HJ.out.mono ?_; rintro e w5 ⟨rfl, hj⟩; have hcN := hj.2.1; have hj5 := Lib.hid hj; clear hj) | (go_at_call 63; refine (callsIn_wide.1 (Tryz.maps_Keys_63 _ _)).mono ?_; rintro e w' ⟨rfl, rfl⟩) | (go_at_call 62; refine (callsIn_wide.1 (Tryz.slices_Sorted_keys_62_63 _ _ _ RI w5 hj5.out.2.2.2.1 (by have := hj5.out.2.2.2.1.size_le; have := HL.out; unfold maxLen; omega) (by have := hj5.out.2.2.2.1.size_le; have := HL.out; omega))).mono ?_; rintro e w6 ⟨vS, ss, rfl, hperm, hrow, -, hb6⟩; have hj6 := (J1.below hj5.out (below_alloc (Below.refl _ _) _)).below hb6; have hown5 := hj5.out.2.2.2.1; rw [HK.out] at hown5 hperm; obtain ⟨hso, hlen⟩ := sorted_names hown5 hperm; have hR := row_names (namesOf p) hso hlen hrow; obtain ⟨AS, cS, rfl, -, -⟩ := Kd.R_reads hR; rw [List.length_map, HKK.out] at hR; simp only [List.length_map, HKK.out]; have hR6 := Lib.hid (Kd.R_lower (base' := w0.heap.size) hR (by have := hj5.out.2.2.1.bel.size; simp; omega)); have hB6 := hj6.1; have hN6 := hj6.2.1; have hT6 := hj6.tree; have ht0 : w6.cell? ⟨w.heap.size + 1, 0, none⟩ = some (.slice none 0 0) := (blk_cell hT6 0).trans rfl; have ht1 : w6.cell? ⟨w.heap.size + 1, 1, none⟩ = some (.slice none 0 0) := (blk_cell hT6 1).trans rfl; have hf0 := blk_frozen hT6 0; have hf1 := blk_frozen hT6 1; have HT6 := Lib.hid hT6; have hg4 := hj6.2.2.1.c4; have hg0 := hj6.2.2.1.c0; rw [HLL.out] at hg0; rw [HD.out] at hg4; have H6 := Lib.hid hj6; clear hperm hrow hb6 hown5 hso hlen hR hj6 hT6))
   refine bodyPost_ret (results_ct rfl _ _ (w.heap.size + 1) 27 #[.slice none 0 0, .slice none 0 0] (0, 0) _ rfl (by first | exact blk_set (blk_set HT6.out 0 (.slice none 0 0)) 1 (.slice none 0 0) | exact HT6.out) Tryz.underlying27 rfl (by kernel_rfl)) rfl ?_
   exact zz22
  ·have HD := Lib.hid hd
   have q1 : ((5000 : Int) < (L1 : Int)) = True := eq_true (by omega)
   clear hd
   go_enter Tryz.func31, Tryz.ntmps31
   go_wp2_with (first | (go_at_call 60; refine HJ.out.mono ?_; rintro e w5 ⟨rfl, hj⟩; have hcN := hj.2.1; have hj5 := Lib.hid hj; clear hj) | (go_at_call 63; refine (callsIn_wide.1 (Tryz.maps_Keys_63 _ _)).mono ?_; rintro e w' ⟨rfl, rfl⟩) | (go_at_call 62; refine (callsIn_wide.1 (Tryz.slices_Sorted_keys_62_63 _ _ _ RI w5 hj5.out.2.2.2.1 (by have := hj5.out.2.2.2.1.size_le; have := HL.out; unfold maxLen; omega) (by have := hj5.out.2.2.2.1.size_le; have := HL.out; omega))).mono ?_; rintro e w6 ⟨vS, ss, rfl, hperm, hrow, -, hb6⟩; have hj6 := (J1.below hj5.out (below_alloc (Below.refl _ _) _)).below hb6; have hown5 := hj5.out.2.2.2.1; rw [HK.out] at hown5 hperm; obtain ⟨hso, hlen⟩ := sorted_names hown5 hperm; have hR := row_names (namesOf p) hso hlen hrow; obtain ⟨AS, cS, rfl, -, -⟩ := Kd.R_reads hR; rw [List.length_map, HKK.out] at hR; simp only [List.length_map, HKK.out]; have hR6 := Lib.hid (Kd.R_lower (base' := w0.heap.size) hR (by have := hj5.out.2.2.1.bel.size; simp; omega)); have hB6 := hj6.1; have hN6 := hj6.2.1; have hT6 := hj6.tree; have ht0 : w6.cell? ⟨w.heap.size + 1, 0, none⟩ = some (.slice none 0 0) := (blk_cell hT6 0).trans rfl; have ht1 : w6.cell? ⟨w.heap.size + 1, 1, none⟩ = some (.slice none 0 0) := (blk_cell hT6 1).trans rfl; have hf0 := blk_frozen hT6 0; have hf1 := blk_frozen hT6 1; have HT6 := Lib.hid hT6; have hg4 := hj6.2.2.1.c4; have hg0 := hj6.2.2.1.c0; rw [HLL.out] at hg0; rw [HD.out] at hg4; have H6 := Lib.hid hj6; clear hperm hrow hb6 hown5 hso hlen hR hj6 hT6))
   refine bodyPost_ret (results_ct rfl _ _ (w.heap.size + 1) 27 #[.slice none 0 0, .slice none 0 0] (0, 0) _ rfl (by first | exact blk_set (blk_set HT6.out 0 (.slice none 0 0)) 1 (.slice none 0 0) | exact HT6.out) Tryz.underlying27 rfl (by kernel_rfl)) rfl ?_
   exact zz22
  ·have HD := Lib.hid hd
   have q1 : ((5000 : Int) < (L1 : Int)) = False := eq_false (by omega)
   have q2 : ((1000 : Int) < (K : Int)) = True := eq_true (by omega)
   clear hd
   go_enter Tryz.func31, Tryz.ntmps31
   go_wp2_with (first | (go_at_call 60; refine HJ.out.mono ?_; rintro e w5 ⟨rfl, hj⟩; have hcN := hj.2.1; have hj5 := Lib.hid hj; clear hj) | (go_at_call 63; refine (callsIn_wide.1 (Tryz.maps_Keys_63 _ _)).mono ?_; rintro e w' ⟨rfl, rfl⟩) | (go_at_call 62; refine (callsIn_wide.1 (Tryz.slices_Sorted_keys_62_63 _ _ _ RI w5 hj5.out.2.2.2.1 (by have := hj5.out.2.2.2.1.size_le; have := HL.out; unfold maxLen; omega) (by have := hj5.out.2.2.2.1.size_le; have := HL.out; omega))).mono ?_; rintro e w6 ⟨vS, ss, rfl, hperm, hrow, -, hb6⟩; have hj6 := (J1.below hj5.out (below_alloc (Below.refl _ _) _)).below hb6; have hown5 := hj5.out.2.2.2.1; rw [HK.out] at hown5 hperm; obtain ⟨hso, hlen⟩ := sorted_names hown5 hperm; have hR := row_names (namesOf p) hso hlen hrow; obtain ⟨AS, cS, rfl, -, -⟩ := Kd.R_reads hR; rw [List.length_map, HKK.out] at hR; simp only [List.length_map, HKK.out]; have hR6 := Lib.hid (Kd.R_lower (base' := w0.heap.size) hR (by have := hj5.out.2.2.1.bel.size; simp; omega)); have hB6 := hj6.1; have hN6 := hj6.2.1; have hT6 := hj6.tree; have ht0 : w6.cell? ⟨w.heap.size + 1, 0, none⟩ = some (.slice none 0 0) := (blk_cell hT6 0).trans rfl; have ht1 : w6.cell? ⟨w.heap.size + 1, 1, none⟩ = some (.slice none 0 0) := (blk_cell hT6 1).trans rfl; have hf0 := blk_frozen hT6 0; have hf1 := blk_frozen hT6 1; have HT6 := Lib.hid hT6; have hg4 := hj6.2.2.1.c4; have hg0 := hj6.2.2.1.c0; rw [HLL.out] at hg0; rw [HD.out] at hg4; have H6 := Lib.hid hj6; clear hperm hrow hb6 hown5 hso hlen hR hj6 hT6))
   refine bodyPost_ret (results_ct rfl _ _ (w.heap.size + 1) 27 #[.slice none 0 0, .slice none 0 0] (0, 0) _ rfl (by first | exact blk_set (blk_set HT6.out 0 (.slice none 0 0)) 1 (.slice none 0 0) | exact HT6.out) Tryz.underlying27 rfl (by kernel_rfl)) rfl ?_
   exact zz22
 ·have hd : p.dp = false := by
   by_cases hd : p.dp = true
   ·exact absurd (Or.inl hd) hlim
   ·simpa using hd
  have hq : ¬ 5000 < L1 := fun h => hlim (Or.inr (Or.inl h))
  have hr : ¬ 1000 < K := fun h => hlim (Or.inr (Or.inr h))
  have q1 : ((5000 : Int) < (L1 : Int)) = False := eq_false (by omega)
  have q2 : ((1000 : Int) < (K : Int)) = False := eq_false (by omega)
  have HD := Lib.hid hd
  have HX := Lib.hid hx
  have HS0 := Lib.hid hs
  have hT : treeP p = (((sortedP (namesOf p)).map bytesL, numTo p (sortedP (namesOf p)) p.n.length), 0) := by
   unfold treeP
   rw [numTo_all p _ hs, hw, ho, hL1, hK, if_neg (by rintro (h | h | h); exact absurd h (by decide); omega; omega), if_neg hlim]
  rw [hT]
  clear hT
  have hmx : ∀ s, s ∈ sortedP (namesOf p) → s.length ≤ maxLen := by
   intro s hs'
   have h1 : s ∈ onceP (namesOf p) := (List.mergeSort_perm _ _).mem_iff.1 hs'
   have h2 := (mem_onceP _ _).1 h1
   unfold namesOf at h2
   obtain ⟨c, hc, hcs⟩ := List.mem_filterMap.1 h2
   by_cases h3 : c.1.f0 = 3
   ·rw [if_pos h3] at hcs; cases hcs
   ·rw [if_neg h3] at hcs
    have hcs := Option.some.inj hcs
    rw [← hcs, ← Lib.size_eq]
    exact hx _ (List.of_mem_zip hc).2
  have hnd : (sortedP (namesOf p)).Nodup := (List.mergeSort_perm _ _).nodup_iff.2 (nodup_onceP _)
  have HMX := Lib.hid hmx
  have HND := Lib.hid hnd
  have HQ := Lib.hid (show K ≤ 1000 by omega)
  clear hlim hl hs hx hw ho hL1 hK hd hmx hnd hq hr
  go_enter Tryz.func31, Tryz.ntmps31
  go_wp2_with (first | (go_at_call 60; refine HJ.out.mono ?_; rintro e w5 ⟨rfl, hj⟩; have hcN := hj.2.1; have hj5 := Lib.hid hj; clear hj) | (go_at_call 63; refine (callsIn_wide.1 (Tryz.maps_Keys_63 _ _)).mono ?_; rintro e w' ⟨rfl, rfl⟩) | (go_at_call 62; refine (callsIn_wide.1 (Tryz.slices_Sorted_keys_62_63 _ _ _ RI w5 hj5.out.2.2.2.1 (by have := hj5.out.2.2.2.1.size_le; have := HL.out; unfold maxLen; omega) (by have := hj5.out.2.2.2.1.size_le; have := HL.out; omega))).mono ?_; rintro e w6 ⟨vS, ss, rfl, hperm, hrow, -, hb6⟩; have hj6 := (J1.below hj5.out (below_alloc (Below.refl _ _) _)).below hb6; have hown5 := hj5.out.2.2.2.1; rw [HK.out] at hown5 hperm; obtain ⟨hso, hlen⟩ := sorted_names hown5 hperm; have hR := row_names (namesOf p) hso hlen hrow; obtain ⟨AS, cS, rfl, -, -⟩ := Kd.R_reads hR; rw [List.length_map, HKK.out] at hR; simp only [List.length_map, HKK.out]; have hR6 := Lib.hid (Kd.R_lower (base' := w0.heap.size) hR (by have := hj5.out.2.2.1.bel.size; simp; omega)); have hB6 := hj6.1; have hN6 := hj6.2.1; have hT6 := hj6.tree; have ht0 : w6.cell? ⟨w.heap.size + 1, 0, none⟩ = some (.slice none 0 0) := (blk_cell hT6 0).trans rfl; have ht1 : w6.cell? ⟨w.heap.size + 1, 1, none⟩ = some (.slice none 0 0) := (blk_cell hT6 1).trans rfl; have hf0 := blk_frozen hT6 0; have hf1 := blk_frozen hT6 1; have HT6 := Lib.hid hT6; have hg4 := hj6.2.2.1.c4; have hg0 := hj6.2.2.1.c0; rw [HLL.out] at hg0; rw [HD.out] at hg4; have H6 := Lib.hid hj6; clear hperm hrow hb6 hown5 hso hlen hR hj6 hT6))
  go_loopw [58] (fun t wr => ∃ k : Nat, k ≤ K ∧ t = .int .i64 k ∧ Hid (J2 w0 w g (w.heap.size + 1 + 1 + 1) w.heap.size (w.heap.size + 1 + 1) (w.heap.size + 1) (.slice (some ⟨ga, 0, none⟩) p.n.length c1) (.slice (some ⟨gn, 0, none⟩) p.s.length c2) (.slice A3 p.o.length c3) (.slice AS K cS) p (sortedP (namesOf p)) k wr)) (fun t wr => K - (intOf t).toNat)
  case atStart =>
   obtain ⟨j1, j2, j3, j4, j5, j6, j7, j8⟩ := H6.out
   exact ⟨0, Nat.zero_le _, rfl, Lib.hid ⟨_, j1, j2, j3, j4, fun j hj => absurd hj (Nat.not_lt_zero _), HT6.out, hR6.out, j6⟩⟩
  case round =>
   clear H6 HT6 hR6 hB6 hN6 ht0 ht1 hf0 hf1 hg4 hg0
   obtain ⟨k, hk, rfl, hJ2⟩ := hrel
   by_cases hlt : k < K
   ·have hkn : k < (sortedP (namesOf p)).length := by rw [HKK.out]; exact hlt
    obtain ⟨W', hrun, hJ'⟩ := J2_step hJ2.out hkn HND.out HMX.out HL.out (by have := HQ.out; omega) HW0.out (by omega) (by omega) (by omega)
    obtain ⟨D, j1, j2, j3, j4, j5, j6, j7, j8⟩ := hJ2.out
    have hC := (Kd.R_reads' j7).2.2
    obtain ⟨ad, rfl, hr⟩ := Kd.at_string hC (k : Int) (by omega) (by rw [List.length_map]; omega)
    have hS : rdOf ByteArray.empty ((sortedP (namesOf p)).map bytesL) (k : Int) = bytesL ((sortedP (namesOf p)).getD k []) := by
     unfold rdOf
     rw [Int.toNat_natCast, List.getD_eq_getElem?_getD, List.getD_eq_getElem?_getD, List.getElem?_map, List.getElem?_eq_getElem hkn]; rfl
    rw [hS, Int.toNat_natCast] at hr
    obtain ⟨S, hSS⟩ : ∃ S, bytesL ((sortedP (namesOf p)).getD k []) = S := ⟨_, rfl⟩
    rw [hSS] at hr hrun
    have p0 : ((0 : Int) ≤ (k : Int)) = True := eq_true (by omega)
    have p1 : ((k : Int) < (K : Int)) = True := eq_true (by omega)
    have e1 : IntKind.i64.wrap ((k : Int) + 1) = ((k + 1 : Nat) : Int) := by have := HQ.out; rw [IntKind.wrap_i64]; omega
    have HJ' := Lib.hid hJ'
    have HX2 := Lib.hid hlt
    clear hkn hJ' j1 j3 j4 j5 j6 j7 j8 hC hS hSS
    go_wp2
    go_roundw
    case rel => exact ⟨k + 1, by have := HX2.out; omega, by first | rfl | go_num, HJ'⟩
    case measure => have := HX2.out; simp [intOf]; omega
   ·have hkK : k = K := by omega
    subst hkK
    have p1 : ((k : Int) < (k : Int)) = False := eq_false (by omega)
    obtain ⟨D, j1, j2, j3, j4, j5, j6, j7, j8⟩ := hJ2.out
    have hcB := j1
    have hcN := j2
    have hgn : ∀ b, b = w.heap.size ∨ b = w.heap.size + 1 + 1 + 1 ∨ b = w.heap.size + 1 + 1 ∨ b = w.heap.size + 1 → b ≠ ga := by
     have := HGA.out
     intro b hb
     omega
    have hN := Lib.hid (number_c (w0 := w0) (g := g) (nb := w.heap.size + 1 + 1 + 1) (bb := w.heap.size) (mb := w.heap.size + 1 + 1) (tb := w.heap.size + 1) (ga := ga) (gn := gn) (c1 := c1) (c2 := c2) (p := p) (names := sortedP (namesOf p)) (by have := HL.out; omega) HS0.out HX.out hgn (fun k hk h3 => name_in p HS0.out k hk h3) (fun j hj z => j5 j (by rw [HKK.out] at hj; exact hj) z) ⟨j1, j2, by rw [numTo_zero]; exact j3, j4, j6, j7⟩)
    clear j1 j2 j3 j4 j5 j6 j7 j8 hgn
    go_wp2_with (first | (go_at_call 60; refine hN.out.mono ?_; rintro e w8 ⟨rfl, hj⟩; have hB8 := hj.1; have hg8 := hj.2.2.1.c0; have hT8 := hj.2.2.2.2.1; have ht0 : w8.cell? ⟨w.heap.size + 1, 0, none⟩ = some (.slice none 0 0) := (blk_cell hT8 0).trans rfl; have ht1 : w8.cell? ⟨w.heap.size + 1, 1, none⟩ = some (.slice none 0 0) := (blk_cell hT8 1).trans rfl; have hf0 := blk_frozen hT8 0; have hf1 := blk_frozen hT8 1; have HT8 := Lib.hid hT8; have H8 := Lib.hid hj; clear hj hT8))
    refine bodyPost_ret (results_ct rfl _ _ (w.heap.size + 1) 27 #[.slice AS k cS, .slice (some ⟨ga, 0, none⟩) p.n.length c1] (0, 0) _ rfl (blk_set (blk_set HT8.out 0 (.slice AS k cS)) 1 (.slice (some ⟨ga, 0, none⟩) p.n.length c1)) Tryz.underlying27 rfl (by kernel_rfl)) rfl ?_
    have rN := H8.out.2.2.2.2.2
    have r1 := H8.out.2.2.1.r1
    have nN := Kd.R_ne rN HT8.out (by decide)
    have n1 := Kd.R_ne r1 HT8.out (by decide)
    exact ⟨_, _, rfl, R_away_set (R_away_set rN rfl nN 0 _) rfl nN 1 _, R_away_set (R_away_set r1 rfl n1 0 _) rfl n1 1 _, (H8.out.2.2.1.bel.setCell (p := ⟨w.heap.size + 1, 0, none⟩) (Nat.le_succ_of_le HW0.out) _).setCell (p := ⟨w.heap.size + 1, 1, none⟩) (Nat.le_succ_of_le HW0.out) _⟩
end Go.Proofs.YtlhhhlimjajnlaaGreat.X
end
