/- Parts of the proof of canonTrees_holds, kept and merged by a program of mine (wip/tools/slim.py) out of my texts: Q21 -/
import Derived.Test.YtlhhhlimjajnlaaGreatSPt0
import Derived.Test.YtlhhhlimjajnlaaGreatSPt4
import Derived.Test.YtlhhhlimjajnlaaGreatSPt28
import Derived.Test.YtlhhhlimjajnlaaGreatSPt23
import Derived.Test.YtlhhhlimjajnlaaGreatSPt45
section
namespace Go.Proofs.YtlhhhlimjajnlaaGreat.X
end Go.Proofs.YtlhhhlimjajnlaaGreat.X
namespace Go.Proofs.YtlhhhlimjajnlaaGreat.Q
open Go.RowKit Go.Proofs.YtlhhhlimjajnlaaGreatW.PrintWords Go.Proofs.YtlhhhlimjajnlaaGreatW.PrintLast Go.Proofs.YtlhhhlimjajnlaaGreatW.PrintMore
attribute [local go_sem] max2_int min2_int max_two min_two max_three min_three max_four min_four   
open Go.Proofs.YtlhhhlimjajnlaaGreat.X
attribute [local go_sem] str_gtr str_geq str_leq   
set_option linter.unusedVariables false
set_option linter.unusedSimpArgs false
mutual
def R4_Check.j0 : Nat → Bool → List ByteArray → List (S41) → Option (Int)
 | 0, _, _, _ => none
 | k + 1, x43, x414000, x414001 => if x43 = true then (some 1) else (R4_Check.l0 k 0 x414000 x414001)
def R4_Check.l0 : Nat → Int → List ByteArray → List (S41) → Option (Int)
 | 0, _, _, _ => none
 | k + 1, x3, x414000, x414001 => if x3 < (x414001.length : Int) then (if 0 ≤ x3 then ((R4_node.f k x414000 x414001 x3).bind fun t418 => (if t418 = true then (if x3 = 0 then (R4_Check.l0 k (wrap64 (x3 + 1)) x414000 x414001) else (if ((rd_T41 x414001 x3).f2) < 0 then (R4_Check.j2 k x3 true x414000 x414001 ((rd_T41 x414001 x3).f0) ((rd_T41 x414001 x3).f1) ((rd_T41 x414001 x3).f2) ((rd_T41 x414001 x3).f3)) else (if ((rd_T41 x414001 x3).f2) ≥ x3 then (R4_Check.j2 k x3 true x414000 x414001 ((rd_T41 x414001 x3).f0) ((rd_T41 x414001 x3).f1) ((rd_T41 x414001 x3).f2) ((rd_T41 x414001 x3).f3)) else (if 0 ≤ ((rd_T41 x414001 x3).f2) then (if ((rd_T41 x414001 x3).f2) < (x414001.length : Int) then (if ((rd_T41 x414001 ((rd_T41 x414001 x3).f2)).f0) = 1 then ((R4_around.f k x414000 x414001 ((rd_T41 x414001 x3).f2) (wrap64 (x3 - 1))).bind fun t420 => (R4_Check.j2 k x3 (!t420) x414000 x414001 ((rd_T41 x414001 x3).f0) ((rd_T41 x414001 x3).f1) ((rd_T41 x414001 x3).f2) ((rd_T41 x414001 x3).f3))) else (R4_Check.j2 k x3 true x414000 x414001 ((rd_T41 x414001 x3).f0) ((rd_T41 x414001 x3).f1) ((rd_T41 x414001 x3).f2) ((rd_T41 x414001 x3).f3))) else (none)) else (none))))) else (some 1))) else (none)) else (R4_Check.l2 k 0 x414000 x414001)
def R4_Check.j2 : Nat → Int → Bool → List ByteArray → List (S41) → Int → Int → Int → ByteArray → Option (Int)
 | 0, _, _, _, _, _, _, _, _ => none
 | k + 1, x3, x90, x414000, x414001, x418000, x418001, x418002, x418003 => if x90 = true then (some 1) else ((R4_before.f k x414000 x414001 x3).bind fun t421 => (if x418000 = 1 then ((R4_depth.f k x414000 x414001 x3).bind fun t422 => (R4_Check.j3 k x3 t421 (decide (t422 > 64)) x414000 x414001 x418000 x418001 x418002 x418003)) else (R4_Check.j3 k x3 t421 false x414000 x414001 x418000 x418001 x418002 x418003)))
def R4_Check.j3 : Nat → Int → Int → Bool → List ByteArray → List (S41) → Int → Int → Int → ByteArray → Option (Int)
 | 0, _, _, _, _, _, _, _, _, _ => none
 | k + 1, x3, x6, x102, x414000, x414001, x418000, x418001, x418002, x418003 => if x102 = true then (some 1) else (if x6 ≥ 0 then (if x418000 = 2 then (if 0 ≤ x6 then (if x6 < (x414001.length : Int) then (if ((rd_T41 x414001 x6).f0) = 2 then (if x418000 = 3 then (R4_Check.j4 k x3 (((rd_T41 x414001 x6).f0) == 3) x414000 x414001 x418000 x418001 x418002 x418003) else (R4_Check.j4 k x3 false x414000 x414001 x418000 x418001 x418002 x418003)) else (R4_Check.j4 k x3 true x414000 x414001 x418000 x418001 x418002 x418003)) else (none)) else (none)) else (if x418000 = 3 then (if 0 ≤ x6 then (if x6 < (x414001.length : Int) then (R4_Check.j4 k x3 (((rd_T41 x414001 x6).f0) == 3) x414000 x414001 x418000 x418001 x418002 x418003) else (none)) else (none)) else (R4_Check.j4 k x3 false x414000 x414001 x418000 x418001 x418002 x418003))) else (R4_Check.j4 k x3 false x414000 x414001 x418000 x418001 x418002 x418003))
def R4_Check.j4 : Nat → Int → Bool → List ByteArray → List (S41) → Int → Int → Int → ByteArray → Option (Int)
 | 0, _, _, _, _, _, _, _, _ => none
 | k + 1, x3, x132, x414000, x414001, x418000, x418001, x418002, x418003 => if x132 = true then (some 1) else (R4_Check.l1 k x3 (wrap64 (x418002 + 1)) x414000 x414001 x418000 x418001 x418002 x418003)
def R4_Check.l1 : Nat → Int → Int → List ByteArray → List (S41) → Int → Int → Int → ByteArray → Option (Int)
 | 0, _, _, _, _, _, _, _, _ => none
 | k + 1, x3, x7, x414000, x414001, x418000, x418001, x418002, x418003 => if x7 < x3 then (if x418000 = 2 then (if 0 ≤ x7 then (if x7 < (x414001.length : Int) then (if ((rd_T41 x414001 x7).f0) = 2 then (if ((rd_T41 x414001 x7).f2) = x418002 then (if ((rd_T41 x414001 x7).f1) = x418001 then (some 1) else (R4_Check.l1 k x3 (wrap64 (x7 + 1)) x414000 x414001 x418000 x418001 x418002 x418003)) else (R4_Check.l1 k x3 (wrap64 (x7 + 1)) x414000 x414001 x418000 x418001 x418002 x418003)) else (R4_Check.l1 k x3 (wrap64 (x7 + 1)) x414000 x414001 x418000 x418001 x418002 x418003)) else (none)) else (none)) else (R4_Check.l1 k x3 (wrap64 (x7 + 1)) x414000 x414001 x418000 x418001 x418002 x418003)) else (R4_Check.l0 k (wrap64 (x3 + 1)) x414000 x414001)
def R4_Check.l2 : Nat → Int → List ByteArray → List (S41) → Option (Int)
 | 0, _, _, _ => none
 | k + 1, x8, x414000, x414001 => if x8 < (x414000.length : Int) then (R4_Check.l3 k x8 false 0 x414000 x414001) else (some 0)
def R4_Check.l3 : Nat → Int → Bool → Int → List ByteArray → List (S41) → Option (Int)
 | 0, _, _, _, _, _ => none
 | k + 1, x8, x9, x10, x414000, x414001 => if x10 < (x414001.length : Int) then (if x9 = true then (R4_Check.l3 k x8 true (wrap64 (x10 + 1)) x414000 x414001) else (if 0 ≤ x10 then (R4_Check.l3 k x8 (((rd_T41 x414001 x10).f1) == x8) (wrap64 (x10 + 1)) x414000 x414001) else (none))) else (if 0 ≤ x8 then (if x8 < (x414000.length : Int) then (if ((rdOf ByteArray.empty x414000 x8).size : Int) > 0 then ((R1_NameEnd.f k (rdOf ByteArray.empty x414000 x8) 0).bind fun t432 => (if x9 = true then (if (t432 = ((rdOf ByteArray.empty x414000 x8).size : Int)) then (if x8 > 0 then (if 0 ≤ (wrap64 (x8 - 1)) then (if (wrap64 (x8 - 1)) < (x414000.length : Int) then (if ((Op.bytesLess ((rdOf ByteArray.empty x414000 (wrap64 (x8 - 1))).toList) ((rdOf ByteArray.empty x414000 x8).toList)) = true) then (R4_Check.l2 k (wrap64 (x8 + 1)) x414000 x414001) else (some 1)) else (none)) else (none)) else (R4_Check.l2 k (wrap64 (x8 + 1)) x414000 x414001)) else (some 1)) else (some 1))) else (if x9 = true then (some 1) else (some 1))) else (none)) else (none))
end
def R4_Check.f (k : Nat) (l0_0 : List ByteArray) (l0_1 : List (S41)) : Option (Int) := if (l0_1.length : Int) = 0 then (R4_Check.j0 k true l0_0 l0_1) else (if (l0_1.length : Int) > 5000 then (R4_Check.j0 k true l0_0 l0_1) else (if (l0_0.length : Int) > 1000 then (R4_Check.j0 k true l0_0 l0_1) else (if 0 < (l0_1.length : Int) then (if ((rd_T41 l0_1 0).f0) = 1 then (R4_Check.j0 k (((rd_T41 l0_1 0).f2) != (-1)) l0_0 l0_1) else (R4_Check.j0 k true l0_0 l0_1)) else (none))))
theorem R4_Check.mono_l : ∀ k, (∀ y0 y1 y2, LeO (R4_Check.j0 k y0 y1 y2) (R4_Check.j0 (k + 1) y0 y1 y2)) ∧ (∀ y0 y1 y2, LeO (R4_Check.l0 k y0 y1 y2) (R4_Check.l0 (k + 1) y0 y1 y2)) ∧ (∀ y0 y1 y2 y3 y4 y5 y6 y7, LeO (R4_Check.j2 k y0 y1 y2 y3 y4 y5 y6 y7) (R4_Check.j2 (k + 1) y0 y1 y2 y3 y4 y5 y6 y7)) ∧ (∀ y0 y1 y2 y3 y4 y5 y6 y7 y8, LeO (R4_Check.j3 k y0 y1 y2 y3 y4 y5 y6 y7 y8) (R4_Check.j3 (k + 1) y0 y1 y2 y3 y4 y5 y6 y7 y8)) ∧ (∀ y0 y1 y2 y3 y4 y5 y6 y7, LeO (R4_Check.j4 k y0 y1 y2 y3 y4 y5 y6 y7) (R4_Check.j4 (k + 1) y0 y1 y2 y3 y4 y5 y6 y7)) ∧ (∀ y0 y1 y2 y3 y4 y5 y6 y7, LeO (R4_Check.l1 k y0 y1 y2 y3 y4 y5 y6 y7) (R4_Check.l1 (k + 1) y0 y1 y2 y3 y4 y5 y6 y7)) ∧ (∀ y0 y1 y2, LeO (R4_Check.l2 k y0 y1 y2) (R4_Check.l2 (k + 1) y0 y1 y2)) ∧ (∀ y0 y1 y2 y3 y4, LeO (R4_Check.l3 k y0 y1 y2 y3 y4) (R4_Check.l3 (k + 1) y0 y1 y2 y3 y4))
 | 0 => ⟨fun _ _ _ r h => by simp [R4_Check.j0] at h, fun _ _ _ r h => by simp [R4_Check.l0] at h, fun _ _ _ _ _ _ _ _ r h => by simp [R4_Check.j2] at h, fun _ _ _ _ _ _ _ _ _ r h => by simp [R4_Check.j3] at h, fun _ _ _ _ _ _ _ _ r h => by simp [R4_Check.j4] at h, fun _ _ _ _ _ _ _ _ r h => by simp [R4_Check.l1] at h, fun _ _ _ r h => by simp [R4_Check.l2] at h, fun _ _ _ _ _ r h => by simp [R4_Check.l3] at h⟩
 | k + 1 => by
  obtain ⟨ih0, ih1, ih2, ih3, ih4, ih5, ih6, ih7⟩ := R4_Check.mono_l k
  refine ⟨?_, ?_, ?_, ?_, ?_, ?_, ?_, ?_⟩
  ·intro y0 y1 y2
   unfold R4_Check.j0
   have mo0 := @R1_NameEnd.mono; have mo1 := @R4_around.mono; have mo2 := @R4_before.mono; have mo3 := @R4_depth.mono; have mo4 := @R4_node.mono; exact leT
  ·intro y0 y1 y2
   unfold R4_Check.l0
   have mo0 := @R1_NameEnd.mono; have mo1 := @R4_around.mono; have mo2 := @R4_before.mono; have mo3 := @R4_depth.mono; have mo4 := @R4_node.mono; exact leT
  ·intro y0 y1 y2 y3 y4 y5 y6 y7
   unfold R4_Check.j2
   have mo0 := @R1_NameEnd.mono; have mo1 := @R4_around.mono; have mo2 := @R4_before.mono; have mo3 := @R4_depth.mono; have mo4 := @R4_node.mono; exact leT
  ·intro y0 y1 y2 y3 y4 y5 y6 y7 y8
   unfold R4_Check.j3
   have mo0 := @R1_NameEnd.mono; have mo1 := @R4_around.mono; have mo2 := @R4_before.mono; have mo3 := @R4_depth.mono; have mo4 := @R4_node.mono; exact leT
  ·intro y0 y1 y2 y3 y4 y5 y6 y7
   unfold R4_Check.j4
   have mo0 := @R1_NameEnd.mono; have mo1 := @R4_around.mono; have mo2 := @R4_before.mono; have mo3 := @R4_depth.mono; have mo4 := @R4_node.mono; exact leT
  ·intro y0 y1 y2 y3 y4 y5 y6 y7
   unfold R4_Check.l1
   have mo0 := @R1_NameEnd.mono; have mo1 := @R4_around.mono; have mo2 := @R4_before.mono; have mo3 := @R4_depth.mono; have mo4 := @R4_node.mono; exact leT
  ·intro y0 y1 y2
   unfold R4_Check.l2
   have mo0 := @R1_NameEnd.mono; have mo1 := @R4_around.mono; have mo2 := @R4_before.mono; have mo3 := @R4_depth.mono; have mo4 := @R4_node.mono; exact leT
  ·intro y0 y1 y2 y3 y4
   unfold R4_Check.l3
   have mo0 := @R1_NameEnd.mono; have mo1 := @R4_around.mono; have mo2 := @R4_before.mono; have mo3 := @R4_depth.mono; have mo4 := @R4_node.mono; exact leT
theorem R4_Check.mono : ∀ a0 a1 k, LeO (R4_Check.f k a0 a1) (R4_Check.f (k + 1) a0 a1) := by
 intro a0 a1 k
 obtain ⟨ih0, ih1, ih2, ih3, ih4, ih5, ih6, ih7⟩ := R4_Check.mono_l k
 unfold R4_Check.f
 have mo0 := @R1_NameEnd.mono; have mo1 := @R4_around.mono; have mo2 := @R4_before.mono; have mo3 := @R4_depth.mono; have mo4 := @R4_node.mono; exact leT
set_option maxHeartbeats 8000000 in
set_option maxRecDepth 100000 in
theorem R4_Check.calls (k : Nat) (A0_0 : Option Addr) (c0_0 : Nat) (l0_0 : List ByteArray) (A0_1 : Option Addr) (c0_1 : Nat) (l0_1 : List (S41)) (r : Int) (w : World) (hr0_0 : Kd.C Kd.string w A0_0 l0_0.length l0_0) (hc0_0 : l0_0.length ≤ c0_0) (hr0_1 : Kd.C k41 w A0_1 l0_1.length l0_1) (hc0_1 : l0_1.length ≤ c0_1) (h : R4_Check.f k l0_0 l0_1 = some r) :
 Calls Tryz.prog 20 #[.agg #[.slice A0_0 l0_0.length c0_0, .slice A0_1 l0_1.length c0_1]] w fun e w' => e = .returned (.int .i64 r) ∧ Below w.heap.size w w' := by
 have hu27 := Tryz.underlying27
 have hu41 := Tryz.underlying41
 have HR0_0 := Aside0.mk hr0_0
 have HC0_0 := Aside0.mk hc0_0
 clear hr0_0 hc0_0
 have HR0_1 := Aside0.mk hr0_1
 have HC0_1 := Aside0.mk hc0_1
 clear hr0_1 hc0_1
 have HB := Aside0.mk (Below.refl w.heap.size w)
 have H : (if (l0_1.length : Int) = 0 then (R4_Check.j0 k true l0_0 l0_1) else (if (l0_1.length : Int) > 5000 then (R4_Check.j0 k true l0_0 l0_1) else (if (l0_0.length : Int) > 1000 then (R4_Check.j0 k true l0_0 l0_1) else (if 0 < (l0_1.length : Int) then (if ((rd_T41 l0_1 0).f0) = 1 then (R4_Check.j0 k (((rd_T41 l0_1 0).f2) != (-1)) l0_0 l0_1) else (R4_Check.j0 k true l0_0 l0_1)) else (none))))) = some r := h
 clear h
 have HC2 := Aside0.mk H
 clear H
 go_enter Tryz.func20, Tryz.ntmps20
 go_upto_region 1 with (first | ((with_reducible refine gate_dst (N := 1) rfl ?_); (try (refine gate_guard (by rfl) ?_; dsimp only)); refine box_event ?hg (N := 1) ?hd (cs := #[.slice A0_0 l0_0.length c0_0, .slice A0_1 l0_1.length c0_1]) (t := 27) ?hr ?_; (case hd => rfl); (case hg => rfl); (case hr => first | (go_simp; done) | (go_simp; rfl)); intro gb413 hg w3 hbox hb; have n0_ := Aside0.mk (below_step (zz2) hb); have n1_ := Aside0.mk (hbox); have n2_ := Aside0.mk ((zz35 : w.heap.size ≤ gb413)); have n3_ := Aside0.mk ((zz35 : w.heap.size ≤ gb413)); clear HB; have HB := n0_; have BK413 := n1_; have GW413 := n2_; have GE413 := n3_; clear n0_ n1_ n2_ n3_; clear hb hbox hg))
 repeat (go_quiet (fail); try go_wp2)
 (try simp only [Act.put, List.setIfInBounds_toArray, List.set_cons_zero, List.set_cons_succ])
 go_cut [43] (fun v43 wc => ∃ (kq : Nat) (x43_1 : Bool), v43 = .bool x43_1 ∧ Aside0 (R4_Check.j0 kq x43_1 l0_0 l0_1 = some r) ∧ Aside0 (kq ≤ k) ∧ Aside0 (wc.heap[gb413]? = some (.cells #[(.slice A0_0 l0_0.length c0_0), (.slice A0_1 l0_1.length c0_1)] 27 (0, 0))) ∧ Aside0 (Below w.heap.size w wc))
 case first =>
  as_aux_lemma =>
   have H := HC2.out
   clear HC2
   by_cases c4 : (l0_1.length : Int) = 0
   rw [if_pos c4] at H
   have c4b0 : ((l0_1.length : Int) == 0) = true := beq_iff_eq.mpr c4
   have c4b1 : ((l0_1.length : Int) != 0) = false := bne_eq_false_iff_eq.mpr c4
   clear c4
   (first | rw [c4b0] | (simp only [i64_w, i32_w]; rw [c4b0]) | skip)
   rotate_left
   rw [if_neg c4] at H
   have c4b0 : ((l0_1.length : Int) == 0) = false := beq_eq_false_iff_ne.mpr c4
   have c4b1 : ((l0_1.length : Int) != 0) = true := bne_iff_ne.mpr c4
   have c4b2 : ¬ (l0_1 = []) := fun h_ => c4 (by rw [h_]; rfl)
   (first | rw [c4b0] | (simp only [i64_w, i32_w]; rw [c4b0]) | skip)
   by_cases c6 : (l0_1.length : Int) > 5000
   rw [if_pos c6] at H
   have c6b0 : decide (5000 < (l0_1.length : Int)) = true := decide_eq_true c6
   have c6b1 : decide (5000 < l0_1.length) = true := decide_eq_true (by omega)
   clear c6
   rotate_left
   rw [if_neg c6] at H
   have c6b0 : decide (5000 < (l0_1.length : Int)) = false := decide_eq_false c6
   have c6b1 : decide (5000 < l0_1.length) = false := decide_eq_false (by omega)
   clear c6
   by_cases c8 : (l0_0.length : Int) > 1000
   rw [if_pos c8] at H
   have c8b0 : decide (1000 < (l0_0.length : Int)) = true := decide_eq_true c8
   have c8b1 : decide (1000 < l0_0.length) = true := decide_eq_true (by omega)
   clear c8
   rotate_left
   rw [if_neg c8] at H
   have c8b0 : decide (1000 < (l0_0.length : Int)) = false := decide_eq_false c8
   have c8b1 : decide (1000 < l0_0.length) = false := decide_eq_false (by omega)
   clear c8
   by_cases c10 : 0 < (l0_1.length : Int)
   rw [if_pos c10] at H
   have c10b0 : decide (0 < (l0_1.length : Int)) = true := decide_eq_true c10
   have c10b1 : decide (0 < l0_1.length) = true := decide_eq_true (by omega)
   clear c10
   revert H; refine X.ite_b (fun c11b0 c11b1 H => ?_) (fun c11b0 c11b1 H => ?_)
   rotate_left
   rotate_left
   ·rw [if_neg c10] at H
    exact absurd H (by simp)
   all_goals first
   | (have H' := Aside0.mk H
      clear H
      have hczz1 : w3.cell? ⟨gb413, 0, none⟩ = some (.slice A0_0 l0_0.length c0_0) := (blk_cell BK413.out 0).trans rfl
      have hczz2 : w3.cell? ⟨gb413, 1, none⟩ = some (.slice A0_1 l0_1.length c0_1) := (blk_cell BK413.out 1).trans rfl
      have hfzz1 := blk_frozen BK413.out 0
      have hfzz2 := blk_frozen BK413.out 1
      go_wp2
      repeat (go_quiet (fail); try go_wp2)
      go_meet
      case rel => exact ⟨_, (true), (zz7), H', ⟨zz38⟩, ⟨zz3⟩, ⟨zz4⟩⟩)
   | (have H' := Aside0.mk H
      clear H
      have hczz1 : w3.cell? ⟨gb413, 0, none⟩ = some (.slice A0_0 l0_0.length c0_0) := (blk_cell BK413.out 0).trans rfl
      have hczz2 : w3.cell? ⟨gb413, 1, none⟩ = some (.slice A0_1 l0_1.length c0_1) := (blk_cell BK413.out 1).trans rfl
      have hfzz1 := blk_frozen BK413.out 0
      have hfzz2 := blk_frozen BK413.out 1
      have pz1 : 0 ≤ (0 : Int) := (by omega)
      have qz1 : 0 < (l0_1.length : Int) := of_decide_eq_true (zz1)
      obtain ⟨adz1, ez1, hxz1, hxz2, hxz3, hxz4⟩ := at_T41 HR0_1.out 0 pz1 qz1
      cases ez1
      have qiz1 : (0 < l0_1.length) = True := eq_true (by omega)
      (try rw [show ((0 : Int)).toNat = 0 from rfl] at hxz1)
      (try rw [show 0 * 4 = 0 from rfl] at hxz1)
      (try rw [Addr.add_zero'] at hxz1)
      (try rw [show ((0 : Int)).toNat = 0 from rfl] at hxz2)
      (try rw [show 0 * 4 = 0 from rfl] at hxz2)
      (try rw [Addr.add_zero'] at hxz2)
      (try rw [show ((0 : Int)).toNat = 0 from rfl] at hxz3)
      (try rw [show 0 * 4 = 0 from rfl] at hxz3)
      (try rw [Addr.add_zero'] at hxz3)
      (try rw [show ((0 : Int)).toNat = 0 from rfl] at hxz4)
      (try rw [show 0 * 4 = 0 from rfl] at hxz4)
      (try rw [Addr.add_zero'] at hxz4)
      replace hxz1 := (HB.out.cell (World.block_lt_of_cell? w _ hxz1)).trans hxz1
      replace hxz2 := (HB.out.cell (World.block_lt_of_cell? w _ hxz2)).trans hxz2
      replace hxz3 := (HB.out.cell (World.block_lt_of_cell? w _ hxz3)).trans hxz3
      replace hxz4 := (HB.out.cell (World.block_lt_of_cell? w _ hxz4)).trans hxz4
      replace pz1 := eq_true pz1
      replace qz1 := eq_true qz1
      have pz2 : 0 ≤ (0 : Int) := (by omega)
      have qz2 : 0 < (l0_1.length : Int) := of_decide_eq_true (zz1)
      obtain ⟨adz2, ez2, hxz5, hxz6, hxz7, hxz8⟩ := at_T41 HR0_1.out 0 pz2 qz2
      obtain rfl : adz1 = adz2 := (by injection ez2)
      have qiz2 : (0 < l0_1.length) = True := eq_true (by omega)
      (try rw [show ((0 : Int)).toNat = 0 from rfl] at hxz5)
      (try rw [show 0 * 4 = 0 from rfl] at hxz5)
      (try rw [Addr.add_zero'] at hxz5)
      (try rw [show ((0 : Int)).toNat = 0 from rfl] at hxz6)
      (try rw [show 0 * 4 = 0 from rfl] at hxz6)
      (try rw [Addr.add_zero'] at hxz6)
      (try rw [show ((0 : Int)).toNat = 0 from rfl] at hxz7)
      (try rw [show 0 * 4 = 0 from rfl] at hxz7)
      (try rw [Addr.add_zero'] at hxz7)
      (try rw [show ((0 : Int)).toNat = 0 from rfl] at hxz8)
      (try rw [show 0 * 4 = 0 from rfl] at hxz8)
      (try rw [Addr.add_zero'] at hxz8)
      replace hxz5 := (HB.out.cell (World.block_lt_of_cell? w _ hxz5)).trans hxz5
      replace hxz6 := (HB.out.cell (World.block_lt_of_cell? w _ hxz6)).trans hxz6
      replace hxz7 := (HB.out.cell (World.block_lt_of_cell? w _ hxz7)).trans hxz7
      replace hxz8 := (HB.out.cell (World.block_lt_of_cell? w _ hxz8)).trans hxz8
      replace pz2 := eq_true pz2
      replace qz2 := eq_true qz2
      go_wp2
      repeat (go_quiet (fail); try go_wp2)
      go_meet
      case rel => exact ⟨_, ((((rd_T41 l0_1 0).f2) != (-1))), (zz7), H', ⟨zz38⟩, ⟨zz3⟩, ⟨zz4⟩⟩)
   | (have H' := Aside0.mk H
      clear H
      have hczz1 : w3.cell? ⟨gb413, 0, none⟩ = some (.slice A0_0 l0_0.length c0_0) := (blk_cell BK413.out 0).trans rfl
      have hczz2 : w3.cell? ⟨gb413, 1, none⟩ = some (.slice A0_1 l0_1.length c0_1) := (blk_cell BK413.out 1).trans rfl
      have hfzz1 := blk_frozen BK413.out 0
      have hfzz2 := blk_frozen BK413.out 1
      have pz1 : 0 ≤ (0 : Int) := (by omega)
      have qz1 : 0 < (l0_1.length : Int) := of_decide_eq_true (zz1)
      obtain ⟨adz1, ez1, hxz1, hxz2, hxz3, hxz4⟩ := at_T41 HR0_1.out 0 pz1 qz1
      cases ez1
      have qiz1 : (0 < l0_1.length) = True := eq_true (by omega)
      (try rw [show ((0 : Int)).toNat = 0 from rfl] at hxz1)
      (try rw [show 0 * 4 = 0 from rfl] at hxz1)
      (try rw [Addr.add_zero'] at hxz1)
      (try rw [show ((0 : Int)).toNat = 0 from rfl] at hxz2)
      (try rw [show 0 * 4 = 0 from rfl] at hxz2)
      (try rw [Addr.add_zero'] at hxz2)
      (try rw [show ((0 : Int)).toNat = 0 from rfl] at hxz3)
      (try rw [show 0 * 4 = 0 from rfl] at hxz3)
      (try rw [Addr.add_zero'] at hxz3)
      (try rw [show ((0 : Int)).toNat = 0 from rfl] at hxz4)
      (try rw [show 0 * 4 = 0 from rfl] at hxz4)
      (try rw [Addr.add_zero'] at hxz4)
      replace hxz1 := (HB.out.cell (World.block_lt_of_cell? w _ hxz1)).trans hxz1
      replace hxz2 := (HB.out.cell (World.block_lt_of_cell? w _ hxz2)).trans hxz2
      replace hxz3 := (HB.out.cell (World.block_lt_of_cell? w _ hxz3)).trans hxz3
      replace hxz4 := (HB.out.cell (World.block_lt_of_cell? w _ hxz4)).trans hxz4
      replace pz1 := eq_true pz1
      replace qz1 := eq_true qz1
      go_wp2
      repeat (go_quiet (fail); try go_wp2)
      go_meet
      case rel => exact ⟨_, (true), (zz7), H', ⟨zz38⟩, ⟨zz3⟩, ⟨zz4⟩⟩)
 case rest =>
  as_aux_lemma =>
   clear HC2
   try clear c1
   try clear c2
   try clear p2
   try clear c4
   try clear c4b0
   try clear c4b1
   try clear c4b2
   try clear p4
   try clear q4
   try clear hx4
   try clear qi4
   try clear c6
   try clear c6b0
   try clear c6b1
   try clear c8
   try clear c8b0
   try clear c8b1
   try clear c10
   try clear c10b0
   try clear c10b1
   try clear c11
   try clear c11b0
   try clear c11b1
   try clear hcz12_0
   try clear hcz12_1
   try clear hcz13_0
   try clear hcz13_1
   try clear hcz5_0
   try clear hcz5_1
   try clear hcz7_0
   try clear hcz7_1
   try clear hcz9_0
   try clear hcz9_1
   try clear hfz12_0
   try clear hfz12_1
   try clear hfz13_0
   try clear hfz13_1
   try clear hfz5_0
   try clear hfz5_1
   try clear hfz7_0
   try clear hfz7_1
   try clear hfz9_0
   try clear hfz9_1
   try clear hx414_0
   try clear hx414_1
   try clear hx414_2
   try clear hx414_3
   try clear hx415_0
   try clear hx415_1
   try clear hx415_2
   try clear hx415_3
   try clear p414
   try clear p415
   try clear q414
   try clear q415
   obtain ⟨kq, x43_1, rfl, HA, HJ1, BK413, HB⟩ := hcut
   cases kq with
   | zero => exact absurd HA.out (by simp [R4_Check.j0])
   | succ kj1 =>
    have H := HA.out
    clear HA
    simp only [R4_Check.j0] at H
    by_cases c14 : x43_1 = true
    ·subst c14
     rw [if_pos rfl] at H
     obtain rfl := Option.some.inj H
     go_wp2
     repeat (go_quiet (fail); try go_wp2)
     go_ret
     exact ⟨zz11, zz4⟩
    ·replace c14 := Bool.eq_false_iff.mpr c14
     subst c14
     rw [if_neg (show ¬ (false = true) by decide)] at H
     have H' := Aside0.mk H
     clear H
     go_wp2
     repeat (go_quiet (fail); try go_wp2)
     go_loopg [3] kj1 (fun kq v3 w' => ∃ (x3_2 : Int), v3 = .int .i64 x3_2 ∧ Aside0 (R4_Check.l0 kq x3_2 l0_0 l0_1 = some r) ∧ Aside0 (kq ≤ kj1) ∧ Aside0 (w'.heap[gb413]? = some (.cells #[(.slice A0_0 l0_0.length c0_0), (.slice A0_1 l0_1.length c0_1)] 27 (0, 0))) ∧ Aside0 (Below w.heap.size w w'))
     case atStart => exact ⟨(0), (zz7), H', ⟨Nat.le_refl _⟩, ⟨zz3⟩, ⟨zz4⟩⟩
     case round =>
      as_aux_lemma =>
       clear H'
       try clear c1
       try clear c2
       try clear p2
       try clear c4
       try clear c4b0
       try clear c4b1
       try clear c4b2
       try clear p4
       try clear q4
       try clear hx4
       try clear qi4
       try clear c6
       try clear c6b0
       try clear c6b1
       try clear c8
       try clear c8b0
       try clear c8b1
       try clear c10
       try clear c10b0
       try clear c10b1
       try clear c11
       try clear c11b0
       try clear c11b1
       try clear c14
       try clear hcz12_0
       try clear hcz12_1
       try clear hcz13_0
       try clear hcz13_1
       try clear hcz5_0
       try clear hcz5_1
       try clear hcz7_0
       try clear hcz7_1
       try clear hcz9_0
       try clear hcz9_1
       try clear hfz12_0
       try clear hfz12_1
       try clear hfz13_0
       try clear hfz13_1
       try clear hfz5_0
       try clear hfz5_1
       try clear hfz7_0
       try clear hfz7_1
       try clear hfz9_0
       try clear hfz9_1
       try clear hx414_0
       try clear hx414_1
       try clear hx414_2
       try clear hx414_3
       try clear hx415_0
       try clear hx415_1
       try clear hx415_2
       try clear hx415_3
       try clear p2
       try clear p4
       try clear p414
       try clear p415
       try clear q4
       try clear q414
       try clear q415
       obtain ⟨x3_2, rfl, HA, HK2, BK413, HB⟩ := hrel
       cases gk with
       | zero => exact absurd HA.out (by simp [R4_Check.l0])
       | succ k2 =>
        have H := HA.out
        clear HA
        simp only [R4_Check.l0] at H
        revert H; refine X.ite_d (fun c15b0 H => ?_) (fun c15b0 H => ?_)
        by_cases c16 : 0 ≤ x3_2
        rw [if_pos c16] at H
        have c16b0 : decide (0 ≤ x3_2) = true := decide_eq_true c16
        clear c16
        replace H := Option.bind_eq_some_iff.mp H
        obtain ⟨t418, A170, H⟩ := H
        try dsimp only at H
        have A17 := Aside0.mk A170
        clear A170
        by_cases c18 : t418 = true
        subst c18
        rw [if_pos rfl] at H
        revert H; refine X.ite_b (fun c19b0 c19b1 H => ?_) (fun c19b0 c19b1 H => ?_)
        rotate_left
        ·have HC26 := Aside0.mk H
         clear H
         have hcz27_0 : wr.cell? ⟨gb413, 0, none⟩ = some (.slice A0_0 l0_0.length c0_0) := (blk_cell BK413.out 0).trans rfl
         have hcz27_1 : wr.cell? ⟨gb413, 1, none⟩ = some (.slice A0_1 l0_1.length c0_1) := (blk_cell BK413.out 1).trans rfl
         have hfz27_0 := blk_frozen BK413.out 0
         have hfz27_1 := blk_frozen BK413.out 1
         have p416 : 0 ≤ (x3_2 : Int) := of_decide_eq_true (zz1)
         have q416 : x3_2 < (l0_1.length : Int) := of_decide_eq_true (zz1)
         obtain ⟨ad416, e416, hx416_0, hx416_1, hx416_2, hx416_3⟩ := at_T41 HR0_1.out x3_2 p416 q416
         cases e416
         replace hx416_0 := (HB.out.cell (World.block_lt_of_cell? w _ hx416_0)).trans hx416_0
         replace hx416_1 := (HB.out.cell (World.block_lt_of_cell? w _ hx416_1)).trans hx416_1
         replace hx416_2 := (HB.out.cell (World.block_lt_of_cell? w _ hx416_2)).trans hx416_2
         replace hx416_3 := (HB.out.cell (World.block_lt_of_cell? w _ hx416_3)).trans hx416_3
         replace p416 := eq_true p416
         replace q416 := eq_true q416
         go_upto_region 11 with (first | ((with_reducible refine gate_dst (N := 4) rfl ?_); (try (refine gate_guard (by rfl) ?_; dsimp only)); refine box_event ?hg (N := 4) ?hd (cs := #[.int .i64 0, .int .i64 0, .int .i64 0, .string (⟨#[]⟩ : ByteArray)]) (t := 41) ?hr ?_; (case hd => rfl); (case hg => rfl); (case hr => first | (go_simp; done) | (go_simp; rfl)); intro gb417 hg w28 hbox hb; have n0_ := Aside0.mk (blk_below (g := gb413) (o := .cells #[.slice A0_0 l0_0.length c0_0, .slice (some ad416) l0_1.length c0_1] 27 (0, 0)) (zz3) hb); have n1_ := Aside0.mk (below_step (zz4) hb); have n2_ := Aside0.mk (hbox); have n3_ := Aside0.mk ((by rw [hg]; exact (below_size (zz4)) : w.heap.size ≤ gb417)); have n4_ := Aside0.mk ((by rw [hg]; exact (below_size (zz4)) : w.heap.size ≤ gb417)); have n5_ := Aside0.mk ((zz39 : gb413 ≠ gb417)); have n6_ := Aside0.mk ((zz40 : gb417 ≠ gb413)); clear BK413; clear HB; have BK413 := n0_; have HB := n1_; have BK417 := n2_; have GW417 := n3_; have GE417 := n4_; have NB413_417 := n5_; have NB417_413 := n6_; clear n0_ n1_ n2_ n3_ n4_ n5_ n6_; clear hb hbox hg; have hnb29 := NB417_413.out; have hnc29 := NB413_417.out; have hcz30_0 : w28.cell? ⟨gb417, 0, none⟩ = some (.int .i64 0) := (blk_cell BK417.out 0).trans rfl; have hcz30_1 : w28.cell? ⟨gb417, 1, none⟩ = some (.int .i64 0) := (blk_cell BK417.out 1).trans rfl; have hcz30_2 : w28.cell? ⟨gb417, 2, none⟩ = some (.int .i64 0) := (blk_cell BK417.out 2).trans rfl; have hcz30_3 : w28.cell? ⟨gb417, 3, none⟩ = some (.string (⟨#[]⟩ : ByteArray)) := (blk_cell BK417.out 3).trans rfl; have hfz30_0 := blk_frozen BK417.out 0; have hfz30_1 := blk_frozen BK417.out 1; have hfz30_2 := blk_frozen BK417.out 2; have hfz30_3 := blk_frozen BK417.out 3; have hcz31_0 : w28.cell? ⟨gb413, 0, none⟩ = some (.slice A0_0 l0_0.length c0_0) := (blk_cell BK413.out 0).trans rfl; have hcz31_1 : w28.cell? ⟨gb413, 1, none⟩ = some (.slice (some ad416) l0_1.length c0_1) := (blk_cell BK413.out 1).trans rfl; have hfz31_0 := blk_frozen BK413.out 0; have hfz31_1 := blk_frozen BK413.out 1) | (go_at_call 49; (with_reducible refine (R4_node.calls k2 _ _ l0_0 _ _ l0_1 x3_2 true _ ?side1 ?side2 ?side3 ?side4 A17.out).mono ?_); (case side1 => exact Kd.C_below HR0_0.out (zz0)); (case side2 => exact HC0_0.out); (case side3 => exact Kd.C_below HR0_1.out (zz0)); (case side4 => exact HC0_1.out); rintro e w32 ⟨rfl, hb⟩; have n0_ := Aside0.mk (blk_below (g := gb413) (o := .cells #[.slice A0_0 l0_0.length c0_0, .slice (some ad416) l0_1.length c0_1] 27 (0, 0)) (zz16) hb); have n1_ := Aside0.mk (blk_below (g := gb417) (o := .cells #[.int .i64 ((rd_T41 l0_1 x3_2).f0), .int .i64 ((rd_T41 l0_1 x3_2).f1), .int .i64 ((rd_T41 l0_1 x3_2).f2), .string ((rd_T41 l0_1 x3_2).f3)] 41 (0, 0)) (by (with_reducible repeat (first | refine blk_drewN ?_ _ | refine blk_drew ?_ | refine blk_alloc ?_ _)); refine blk_put (cs := #[.int .i64 ((rd_T41 l0_1 x3_2).f0), .int .i64 ((rd_T41 l0_1 x3_2).f1), .int .i64 ((rd_T41 l0_1 x3_2).f2), .string (⟨#[]⟩ : ByteArray)]) ?_ 3 _ rfl; (with_reducible repeat (first | refine blk_drewN ?_ _ | refine blk_drew ?_ | refine blk_alloc ?_ _)); refine blk_put (cs := #[.int .i64 ((rd_T41 l0_1 x3_2).f0), .int .i64 ((rd_T41 l0_1 x3_2).f1), .int .i64 0, .string (⟨#[]⟩ : ByteArray)]) ?_ 2 _ rfl; (with_reducible repeat (first | refine blk_drewN ?_ _ | refine blk_drew ?_ | refine blk_alloc ?_ _)); refine blk_put (cs := #[.int .i64 ((rd_T41 l0_1 x3_2).f0), .int .i64 0, .int .i64 0, .string (⟨#[]⟩ : ByteArray)]) ?_ 1 _ rfl; (with_reducible repeat (first | refine blk_drewN ?_ _ | refine blk_drew ?_ | refine blk_alloc ?_ _)); refine blk_put (cs := #[.int .i64 0, .int .i64 0, .int .i64 0, .string (⟨#[]⟩ : ByteArray)]) ?_ 0 _ rfl; (with_reducible repeat (first | refine blk_drewN ?_ _ | refine blk_drew ?_ | refine blk_alloc ?_ _)); exact BK417.out) hb); have n2_ := Aside0.mk (below_step (zz0) hb); clear BK413; clear BK417; clear HB; have BK413 := n0_; have BK417 := n1_; have HB := n2_; clear n0_ n1_ n2_; (try clear hb); (try clear hb2); (try clear hk); (try clear hi)))
         repeat (go_quiet (fail); try go_wp2)
         (try simp only [Act.put, List.setIfInBounds_toArray, List.set_cons_zero, List.set_cons_succ])
         go_cut [90] (fun v90 wc => ∃ (kq : Nat) (x90_25 : Bool), v90 = .bool x90_25 ∧ Aside0 (R4_Check.j2 kq x3_2 x90_25 l0_0 l0_1 ((rd_T41 l0_1 x3_2).f0) ((rd_T41 l0_1 x3_2).f1) ((rd_T41 l0_1 x3_2).f2) ((rd_T41 l0_1 x3_2).f3) = some r) ∧ Aside0 (kq ≤ k2) ∧ Aside0 (wc.heap[gb413]? = some (.cells #[(.slice A0_0 l0_0.length c0_0), (.slice (some ad416) l0_1.length c0_1)] 27 (0, 0))) ∧ Aside0 (wc.heap[gb417]? = some (.cells #[.int .i64 ((rd_T41 l0_1 x3_2).f0), .int .i64 ((rd_T41 l0_1 x3_2).f1), .int .i64 ((rd_T41 l0_1 x3_2).f2), .string ((rd_T41 l0_1 x3_2).f3)] 41 (0, 0))) ∧ Aside0 (Below w.heap.size w wc))
         case first =>
          as_aux_lemma =>
           have H := HC26.out
           clear HC26
           by_cases c33 : ((rd_T41 l0_1 x3_2).f2) < 0
           ·rw [if_pos c33] at H
            have c33b0 : decide (((rd_T41 l0_1 x3_2).f2) < 0) = true := decide_eq_true c33
            clear c33
            (first | rw [c33b0] | (simp only [i64_w, i32_w]; rw [c33b0]) | skip)
            have H' := Aside0.mk H
            clear H
            have hnb34 := NB417_413.out
            have hnc34 := NB413_417.out
            have hcz35_0 : w32.cell? ⟨gb417, 0, none⟩ = some (.int .i64 ((rd_T41 l0_1 x3_2).f0)) := (blk_cell BK417.out 0).trans rfl
            have hcz35_1 : w32.cell? ⟨gb417, 1, none⟩ = some (.int .i64 ((rd_T41 l0_1 x3_2).f1)) := (blk_cell BK417.out 1).trans rfl
            have hcz35_2 : w32.cell? ⟨gb417, 2, none⟩ = some (.int .i64 ((rd_T41 l0_1 x3_2).f2)) := (blk_cell BK417.out 2).trans rfl
            have hcz35_3 : w32.cell? ⟨gb417, 3, none⟩ = some (.string ((rd_T41 l0_1 x3_2).f3)) := (blk_cell BK417.out 3).trans rfl
            have hfz35_0 := blk_frozen BK417.out 0
            have hfz35_1 := blk_frozen BK417.out 1
            have hfz35_2 := blk_frozen BK417.out 2
            have hfz35_3 := blk_frozen BK417.out 3
            go_wp2
            repeat (go_quiet (fail); try go_wp2)
            go_meet
            case rel => exact ⟨_, (true), (zz7), H', ⟨by have := HJ1.out; have := HK2.out; first | omega | exact Nat.le_refl _⟩, ⟨zz3⟩, ⟨zz6⟩, ⟨zz0⟩⟩
           ·rw [if_neg c33] at H
            have c33b0 : decide (((rd_T41 l0_1 x3_2).f2) < 0) = false := decide_eq_false c33
            clear c33
            (first | rw [c33b0] | (simp only [i64_w, i32_w]; rw [c33b0]) | skip)
            by_cases c36 : ((rd_T41 l0_1 x3_2).f2) ≥ x3_2
            ·rw [if_pos c36] at H
             have c36b0 : decide (x3_2 ≤ ((rd_T41 l0_1 x3_2).f2)) = true := decide_eq_true c36
             clear c36
             have H' := Aside0.mk H
             clear H
             have hnb37 := NB417_413.out
             have hnc37 := NB413_417.out
             have hcz38_0 : w32.cell? ⟨gb417, 0, none⟩ = some (.int .i64 ((rd_T41 l0_1 x3_2).f0)) := (blk_cell BK417.out 0).trans rfl
             have hcz38_1 : w32.cell? ⟨gb417, 1, none⟩ = some (.int .i64 ((rd_T41 l0_1 x3_2).f1)) := (blk_cell BK417.out 1).trans rfl
             have hcz38_2 : w32.cell? ⟨gb417, 2, none⟩ = some (.int .i64 ((rd_T41 l0_1 x3_2).f2)) := (blk_cell BK417.out 2).trans rfl
             have hcz38_3 : w32.cell? ⟨gb417, 3, none⟩ = some (.string ((rd_T41 l0_1 x3_2).f3)) := (blk_cell BK417.out 3).trans rfl
             have hfz38_0 := blk_frozen BK417.out 0
             have hfz38_1 := blk_frozen BK417.out 1
             have hfz38_2 := blk_frozen BK417.out 2
             have hfz38_3 := blk_frozen BK417.out 3
             go_wp2
             repeat (go_quiet (fail); try go_wp2)
             go_meet
             case rel => exact ⟨_, (true), (zz7), H', ⟨by have := HJ1.out; have := HK2.out; first | omega | exact Nat.le_refl _⟩, ⟨zz3⟩, ⟨zz6⟩, ⟨zz0⟩⟩
            ·rw [if_neg c36] at H
             have c36b0 : decide (x3_2 ≤ ((rd_T41 l0_1 x3_2).f2)) = false := decide_eq_false c36
             clear c36
             by_cases c39 : 0 ≤ ((rd_T41 l0_1 x3_2).f2)
             ·rw [if_pos c39] at H
              have c39b0 : decide (0 ≤ ((rd_T41 l0_1 x3_2).f2)) = true := decide_eq_true c39
              clear c39
              by_cases c40 : ((rd_T41 l0_1 x3_2).f2) < (l0_1.length : Int)
              ·rw [if_pos c40] at H
               have c40b0 : decide (((rd_T41 l0_1 x3_2).f2) < (l0_1.length : Int)) = true := decide_eq_true c40
               clear c40
               by_cases c41 : ((rd_T41 l0_1 ((rd_T41 l0_1 x3_2).f2)).f0) = 1
               ·rw [if_pos c41] at H
                have c41b0 : (((rd_T41 l0_1 ((rd_T41 l0_1 x3_2).f2)).f0) == 1) = true := beq_iff_eq.mpr c41
                have c41b1 : (((rd_T41 l0_1 ((rd_T41 l0_1 x3_2).f2)).f0) != 1) = false := bne_eq_false_iff_eq.mpr c41
                clear c41
                replace H := Option.bind_eq_some_iff.mp H
                obtain ⟨t420, A420, H⟩ := H
                try dsimp only at H
                have A42 := Aside0.mk A420
                clear A420
                have H' := Aside0.mk H
                clear H
                have hnb43 := NB417_413.out
                have hnc43 := NB413_417.out
                have hcz44_0 : w32.cell? ⟨gb417, 0, none⟩ = some (.int .i64 ((rd_T41 l0_1 x3_2).f0)) := (blk_cell BK417.out 0).trans rfl
                have hcz44_1 : w32.cell? ⟨gb417, 1, none⟩ = some (.int .i64 ((rd_T41 l0_1 x3_2).f1)) := (blk_cell BK417.out 1).trans rfl
                have hcz44_2 : w32.cell? ⟨gb417, 2, none⟩ = some (.int .i64 ((rd_T41 l0_1 x3_2).f2)) := (blk_cell BK417.out 2).trans rfl
                have hcz44_3 : w32.cell? ⟨gb417, 3, none⟩ = some (.string ((rd_T41 l0_1 x3_2).f3)) := (blk_cell BK417.out 3).trans rfl
                have hfz44_0 := blk_frozen BK417.out 0
                have hfz44_1 := blk_frozen BK417.out 1
                have hfz44_2 := blk_frozen BK417.out 2
                have hfz44_3 := blk_frozen BK417.out 3
                have hcz45_0 : w32.cell? ⟨gb413, 0, none⟩ = some (.slice A0_0 l0_0.length c0_0) := (blk_cell BK413.out 0).trans rfl
                have hcz45_1 : w32.cell? ⟨gb413, 1, none⟩ = some (.slice (some ad416) l0_1.length c0_1) := (blk_cell BK413.out 1).trans rfl
                have hfz45_0 := blk_frozen BK413.out 0
                have hfz45_1 := blk_frozen BK413.out 1
                have p419 : 0 ≤ (((rd_T41 l0_1 x3_2).f2) : Int) := of_decide_eq_true (zz1)
                have q419 : ((rd_T41 l0_1 x3_2).f2) < (l0_1.length : Int) := of_decide_eq_true (zz1)
                obtain ⟨ad419, e419, hx419_0, hx419_1, hx419_2, hx419_3⟩ := at_T41 HR0_1.out ((rd_T41 l0_1 x3_2).f2) p419 q419
                obtain rfl : ad416 = ad419 := (by injection e419)
                replace hx419_0 := (HB.out.cell (World.block_lt_of_cell? w _ hx419_0)).trans hx419_0
                replace hx419_1 := (HB.out.cell (World.block_lt_of_cell? w _ hx419_1)).trans hx419_1
                replace hx419_2 := (HB.out.cell (World.block_lt_of_cell? w _ hx419_2)).trans hx419_2
                replace hx419_3 := (HB.out.cell (World.block_lt_of_cell? w _ hx419_3)).trans hx419_3
                replace p419 := eq_true p419
                replace q419 := eq_true q419
                go_wp2_with (first | (go_at_call 50; (with_reducible refine (R4_around.calls k2 _ _ l0_0 _ _ l0_1 ((rd_T41 l0_1 x3_2).f2) (wrap64 (x3_2 - 1)) t420 _ ?side1 ?side2 ?side3 ?side4 A42.out).mono ?_); (case side1 => repeat (first | exact (Kd.C_below HR0_0.out HB.out) | (with_reducible refine Kd.C_alloc ?_ _) | (with_reducible refine Kd.C_drewN ?_ _) | (with_reducible refine Kd.C_drew ?_))); (case side2 => exact HC0_0.out); (case side3 => repeat (first | exact (Kd.C_below HR0_1.out HB.out) | (with_reducible refine Kd.C_alloc ?_ _) | (with_reducible refine Kd.C_drewN ?_ _) | (with_reducible refine Kd.C_drew ?_))); (case side4 => exact HC0_1.out); rintro e w46 ⟨rfl, hb⟩; have n0_ := Aside0.mk (blk_below (g := gb413) (o := .cells #[.slice A0_0 l0_0.length c0_0, .slice (some ad416) l0_1.length c0_1] 27 (0, 0)) (zz3) hb); have n1_ := Aside0.mk (blk_below (g := gb417) (o := .cells #[.int .i64 ((rd_T41 l0_1 x3_2).f0), .int .i64 ((rd_T41 l0_1 x3_2).f1), .int .i64 ((rd_T41 l0_1 x3_2).f2), .string ((rd_T41 l0_1 x3_2).f3)] 41 (0, 0)) (zz6) hb); have n2_ := Aside0.mk (below_step (zz0) hb); clear BK413; clear BK417; clear HB; have BK413 := n0_; have BK417 := n1_; have HB := n2_; clear n0_ n1_ n2_; (try clear hb); (try clear hb2); (try clear hk); (try clear hi)))
                repeat (go_quiet (first | (go_at_call 50; (with_reducible refine (R4_around.calls k2 _ _ l0_0 _ _ l0_1 ((rd_T41 l0_1 x3_2).f2) (wrap64 (x3_2 - 1)) t420 _ ?side1 ?side2 ?side3 ?side4 A42.out).mono ?_); (case side1 => repeat (first | exact (Kd.C_below HR0_0.out HB.out) | (with_reducible refine Kd.C_alloc ?_ _) | (with_reducible refine Kd.C_drewN ?_ _) | (with_reducible refine Kd.C_drew ?_))); (case side2 => exact HC0_0.out); (case side3 => repeat (first | exact (Kd.C_below HR0_1.out HB.out) | (with_reducible refine Kd.C_alloc ?_ _) | (with_reducible refine Kd.C_drewN ?_ _) | (with_reducible refine Kd.C_drew ?_))); (case side4 => exact HC0_1.out); rintro e w46 ⟨rfl, hb⟩; have n0_ := Aside0.mk (blk_below (g := gb413) (o := .cells #[.slice A0_0 l0_0.length c0_0, .slice (some ad416) l0_1.length c0_1] 27 (0, 0)) (zz3) hb); have n1_ := Aside0.mk (blk_below (g := gb417) (o := .cells #[.int .i64 ((rd_T41 l0_1 x3_2).f0), .int .i64 ((rd_T41 l0_1 x3_2).f1), .int .i64 ((rd_T41 l0_1 x3_2).f2), .string ((rd_T41 l0_1 x3_2).f3)] 41 (0, 0)) (zz6) hb); have n2_ := Aside0.mk (below_step (zz0) hb); clear BK413; clear BK417; clear HB; have BK413 := n0_; have BK417 := n1_; have HB := n2_; clear n0_ n1_ n2_; (try clear hb); (try clear hb2); (try clear hk); (try clear hi))); try go_wp2_with (first | (go_at_call 50; (with_reducible refine (R4_around.calls k2 _ _ l0_0 _ _ l0_1 ((rd_T41 l0_1 x3_2).f2) (wrap64 (x3_2 - 1)) t420 _ ?side1 ?side2 ?side3 ?side4 A42.out).mono ?_); (case side1 => repeat (first | exact (Kd.C_below HR0_0.out HB.out) | (with_reducible refine Kd.C_alloc ?_ _) | (with_reducible refine Kd.C_drewN ?_ _) | (with_reducible refine Kd.C_drew ?_))); (case side2 => exact HC0_0.out); (case side3 => repeat (first | exact (Kd.C_below HR0_1.out HB.out) | (with_reducible refine Kd.C_alloc ?_ _) | (with_reducible refine Kd.C_drewN ?_ _) | (with_reducible refine Kd.C_drew ?_))); (case side4 => exact HC0_1.out); rintro e w46 ⟨rfl, hb⟩; have n0_ := Aside0.mk (blk_below (g := gb413) (o := .cells #[.slice A0_0 l0_0.length c0_0, .slice (some ad416) l0_1.length c0_1] 27 (0, 0)) (zz3) hb); have n1_ := Aside0.mk (blk_below (g := gb417) (o := .cells #[.int .i64 ((rd_T41 l0_1 x3_2).f0), .int .i64 ((rd_T41 l0_1 x3_2).f1), .int .i64 ((rd_T41 l0_1 x3_2).f2), .string ((rd_T41 l0_1 x3_2).f3)] 41 (0, 0)) (zz6) hb); have n2_ := Aside0.mk (below_step (zz0) hb); clear BK413; clear BK417; clear HB; have BK413 := n0_; have BK417 := n1_; have HB := n2_; clear n0_ n1_ n2_; (try clear hb); (try clear hb2); (try clear hk); (try clear hi))))
                go_meet
                case rel => exact ⟨_, (!t420), (zz7), H', ⟨by have := HJ1.out; have := HK2.out; first | omega | exact Nat.le_refl _⟩, ⟨zz3⟩, ⟨zz6⟩, ⟨zz0⟩⟩
               ·rw [if_neg c41] at H
                have c41b0 : (((rd_T41 l0_1 ((rd_T41 l0_1 x3_2).f2)).f0) == 1) = false := beq_eq_false_iff_ne.mpr c41
                have c41b1 : (((rd_T41 l0_1 ((rd_T41 l0_1 x3_2).f2)).f0) != 1) = true := bne_iff_ne.mpr c41
                have H' := Aside0.mk H
                clear H
                have hnb47 := NB417_413.out
                have hnc47 := NB413_417.out
                have hcz48_0 : w32.cell? ⟨gb417, 0, none⟩ = some (.int .i64 ((rd_T41 l0_1 x3_2).f0)) := (blk_cell BK417.out 0).trans rfl
                have hcz48_1 : w32.cell? ⟨gb417, 1, none⟩ = some (.int .i64 ((rd_T41 l0_1 x3_2).f1)) := (blk_cell BK417.out 1).trans rfl
                have hcz48_2 : w32.cell? ⟨gb417, 2, none⟩ = some (.int .i64 ((rd_T41 l0_1 x3_2).f2)) := (blk_cell BK417.out 2).trans rfl
                have hcz48_3 : w32.cell? ⟨gb417, 3, none⟩ = some (.string ((rd_T41 l0_1 x3_2).f3)) := (blk_cell BK417.out 3).trans rfl
                have hfz48_0 := blk_frozen BK417.out 0
                have hfz48_1 := blk_frozen BK417.out 1
                have hfz48_2 := blk_frozen BK417.out 2
                have hfz48_3 := blk_frozen BK417.out 3
                have hcz49_0 : w32.cell? ⟨gb413, 0, none⟩ = some (.slice A0_0 l0_0.length c0_0) := (blk_cell BK413.out 0).trans rfl
                have hcz49_1 : w32.cell? ⟨gb413, 1, none⟩ = some (.slice (some ad416) l0_1.length c0_1) := (blk_cell BK413.out 1).trans rfl
                have hfz49_0 := blk_frozen BK413.out 0
                have hfz49_1 := blk_frozen BK413.out 1
                have p419 : 0 ≤ (((rd_T41 l0_1 x3_2).f2) : Int) := of_decide_eq_true (zz1)
                have q419 : ((rd_T41 l0_1 x3_2).f2) < (l0_1.length : Int) := of_decide_eq_true (zz1)
                obtain ⟨ad419, e419, hx419_0, hx419_1, hx419_2, hx419_3⟩ := at_T41 HR0_1.out ((rd_T41 l0_1 x3_2).f2) p419 q419
                obtain rfl : ad416 = ad419 := (by injection e419)
                replace hx419_0 := (HB.out.cell (World.block_lt_of_cell? w _ hx419_0)).trans hx419_0
                replace hx419_1 := (HB.out.cell (World.block_lt_of_cell? w _ hx419_1)).trans hx419_1
                replace hx419_2 := (HB.out.cell (World.block_lt_of_cell? w _ hx419_2)).trans hx419_2
                replace hx419_3 := (HB.out.cell (World.block_lt_of_cell? w _ hx419_3)).trans hx419_3
                replace p419 := eq_true p419
                replace q419 := eq_true q419
                go_wp2
                repeat (go_quiet (fail); try go_wp2)
                go_meet
                case rel => exact ⟨_, (true), (zz7), H', ⟨by have := HJ1.out; have := HK2.out; first | omega | exact Nat.le_refl _⟩, ⟨zz3⟩, ⟨zz6⟩, ⟨zz0⟩⟩
              ·rw [if_neg c40] at H
               exact absurd H (by simp)
             ·rw [if_neg c39] at H
              exact absurd H (by simp)
         case rest =>
          as_aux_lemma =>
           clear HC26
           try clear c1
           try clear c2
           try clear p2
           try clear c3
           try clear c4
           try clear c4b0
           try clear c4b1
           try clear c4b2
           try clear p4
           try clear q4
           try clear hx4
           try clear qi4
           try clear c6
           try clear c6b0
           try clear c6b1
           try clear p6
           try clear c8
           try clear c8b0
           try clear c8b1
           try clear c10
           try clear c10b0
           try clear c10b1
           try clear c11
           try clear c11b0
           try clear c11b1
           try clear c14
           try clear c15
           try clear c15b0
           try clear c16
           try clear c16b0
           try clear c18
           try clear c19
           try clear c19b0
           try clear c19b1
           try clear c20
           try clear c22
           try clear c29
           try clear c33
           try clear c33b0
           try clear c34
           try clear c36
           try clear c36b0
           try clear c37
           try clear c39
           try clear c39b0
           try clear c40
           try clear c40b0
           try clear c41
           try clear c41b0
           try clear c41b1
           try clear p41
           try clear q41
           try clear hx41
           try clear qi41
           try clear c43
           try clear c47
           try clear hcz12_0
           try clear hcz12_1
           try clear hcz13_0
           try clear hcz13_1
           try clear hcz20_0
           try clear hcz20_1
           try clear hcz23_0
           try clear hcz23_1
           try clear hcz23_2
           try clear hcz23_3
           try clear hcz24_0
           try clear hcz24_1
           try clear hcz27_0
           try clear hcz27_1
           try clear hcz30_0
           try clear hcz30_1
           try clear hcz30_2
           try clear hcz30_3
           try clear hcz31_0
           try clear hcz31_1
           try clear hcz35_0
           try clear hcz35_1
           try clear hcz35_2
           try clear hcz35_3
           try clear hcz38_0
           try clear hcz38_1
           try clear hcz38_2
           try clear hcz38_3
           try clear hcz44_0
           try clear hcz44_1
           try clear hcz44_2
           try clear hcz44_3
           try clear hcz45_0
           try clear hcz45_1
           try clear hcz48_0
           try clear hcz48_1
           try clear hcz48_2
           try clear hcz48_3
           try clear hcz49_0
           try clear hcz49_1
           try clear hcz5_0
           try clear hcz5_1
           try clear hcz7_0
           try clear hcz7_1
           try clear hcz9_0
           try clear hcz9_1
           try clear hfz12_0
           try clear hfz12_1
           try clear hfz13_0
           try clear hfz13_1
           try clear hfz20_0
           try clear hfz20_1
           try clear hfz23_0
           try clear hfz23_1
           try clear hfz23_2
           try clear hfz23_3
           try clear hfz24_0
           try clear hfz24_1
           try clear hfz27_0
           try clear hfz27_1
           try clear hfz30_0
           try clear hfz30_1
           try clear hfz30_2
           try clear hfz30_3
           try clear hfz31_0
           try clear hfz31_1
           try clear hfz35_0
           try clear hfz35_1
           try clear hfz35_2
           try clear hfz35_3
           try clear hfz38_0
           try clear hfz38_1
           try clear hfz38_2
           try clear hfz38_3
           try clear hfz44_0
           try clear hfz44_1
           try clear hfz44_2
           try clear hfz44_3
           try clear hfz45_0
           try clear hfz45_1
           try clear hfz48_0
           try clear hfz48_1
           try clear hfz48_2
           try clear hfz48_3
           try clear hfz49_0
           try clear hfz49_1
           try clear hfz5_0
           try clear hfz5_1
           try clear hfz7_0
           try clear hfz7_1
           try clear hfz9_0
           try clear hfz9_1
           try clear hx414_0
           try clear hx414_1
           try clear hx414_2
           try clear hx414_3
           try clear hx415_0
           try clear hx415_1
           try clear hx415_2
           try clear hx415_3
           try clear hx416_0
           try clear hx416_1
           try clear hx416_2
           try clear hx416_3
           try clear hx419_0
           try clear hx419_1
           try clear hx419_2
           try clear hx419_3
           try clear p2
           try clear p4
           try clear p414
           try clear p415
           try clear p416
           try clear p419
           try clear q4
           try clear q414
           try clear q415
           try clear q416
           try clear q419
           obtain ⟨kq, x90_25, rfl, HA, HJ25, BK413, BK417, HB⟩ := hcut
           cases kq with
           | zero => exact absurd HA.out (by simp [R4_Check.j2])
           | succ kj25 =>
            have H := HA.out
            clear HA
            simp only [R4_Check.j2] at H
            by_cases c50 : x90_25 = true
            ·subst c50
             rw [if_pos rfl] at H
             obtain rfl := Option.some.inj H
             go_wp2
             repeat (go_quiet (fail); try go_wp2)
             go_ret
             exact ⟨zz11, zz0⟩
            ·replace c50 := Bool.eq_false_iff.mpr c50
             subst c50
             rw [if_neg (show ¬ (false = true) by decide)] at H
             replace H := Option.bind_eq_some_iff.mp H
             obtain ⟨t421, A510, H⟩ := H
             try dsimp only at H
             have A51 := Aside0.mk A510
             clear A510
             have HC52 := Aside0.mk H
             clear H
             have hnb53 := NB413_417.out
             have hnc53 := NB417_413.out
             have hcz54_0 : wc.cell? ⟨gb413, 0, none⟩ = some (.slice A0_0 l0_0.length c0_0) := (blk_cell BK413.out 0).trans rfl
             have hcz54_1 : wc.cell? ⟨gb413, 1, none⟩ = some (.slice (some ad416) l0_1.length c0_1) := (blk_cell BK413.out 1).trans rfl
             have hfz54_0 := blk_frozen BK413.out 0
             have hfz54_1 := blk_frozen BK413.out 1
             go_upto_region 14 with (first | (go_at_call 51; (with_reducible refine (R4_before.calls kj25 _ _ l0_0 _ _ l0_1 x3_2 t421 _ ?side1 ?side2 ?side3 ?side4 A51.out).mono ?_); (case side1 => repeat (first | exact (Kd.C_below HR0_0.out HB.out) | (with_reducible refine Kd.C_alloc ?_ _) | (with_reducible refine Kd.C_drewN ?_ _) | (with_reducible refine Kd.C_drew ?_))); (case side2 => exact HC0_0.out); (case side3 => repeat (first | exact (Kd.C_below HR0_1.out HB.out) | (with_reducible refine Kd.C_alloc ?_ _) | (with_reducible refine Kd.C_drewN ?_ _) | (with_reducible refine Kd.C_drew ?_))); (case side4 => exact HC0_1.out); rintro e w55 ⟨rfl, hb⟩; have n0_ := Aside0.mk (blk_below (g := gb413) (o := .cells #[.slice A0_0 l0_0.length c0_0, .slice (some ad416) l0_1.length c0_1] 27 (0, 0)) (zz3) hb); have n1_ := Aside0.mk (blk_below (g := gb417) (o := .cells #[.int .i64 ((rd_T41 l0_1 x3_2).f0), .int .i64 ((rd_T41 l0_1 x3_2).f1), .int .i64 ((rd_T41 l0_1 x3_2).f2), .string ((rd_T41 l0_1 x3_2).f3)] 41 (0, 0)) (zz6) hb); have n2_ := Aside0.mk (below_step (zz0) hb); clear BK413; clear BK417; clear HB; have BK413 := n0_; have BK417 := n1_; have HB := n2_; clear n0_ n1_ n2_; (try clear hb); (try clear hb2); (try clear hk); (try clear hi)))
             repeat (go_quiet (first | (go_at_call 51; (with_reducible refine (R4_before.calls kj25 _ _ l0_0 _ _ l0_1 x3_2 t421 _ ?side1 ?side2 ?side3 ?side4 A51.out).mono ?_); (case side1 => repeat (first | exact (Kd.C_below HR0_0.out HB.out) | (with_reducible refine Kd.C_alloc ?_ _) | (with_reducible refine Kd.C_drewN ?_ _) | (with_reducible refine Kd.C_drew ?_))); (case side2 => exact HC0_0.out); (case side3 => repeat (first | exact (Kd.C_below HR0_1.out HB.out) | (with_reducible refine Kd.C_alloc ?_ _) | (with_reducible refine Kd.C_drewN ?_ _) | (with_reducible refine Kd.C_drew ?_))); (case side4 => exact HC0_1.out); rintro e w55 ⟨rfl, hb⟩; have n0_ := Aside0.mk (blk_below (g := gb413) (o := .cells #[.slice A0_0 l0_0.length c0_0, .slice (some ad416) l0_1.length c0_1] 27 (0, 0)) (zz3) hb); have n1_ := Aside0.mk (blk_below (g := gb417) (o := .cells #[.int .i64 ((rd_T41 l0_1 x3_2).f0), .int .i64 ((rd_T41 l0_1 x3_2).f1), .int .i64 ((rd_T41 l0_1 x3_2).f2), .string ((rd_T41 l0_1 x3_2).f3)] 41 (0, 0)) (zz6) hb); have n2_ := Aside0.mk (below_step (zz0) hb); clear BK413; clear BK417; clear HB; have BK413 := n0_; have BK417 := n1_; have HB := n2_; clear n0_ n1_ n2_; (try clear hb); (try clear hb2); (try clear hk); (try clear hi))); go_upto_region 14 with (first | (go_at_call 51; (with_reducible refine (R4_before.calls kj25 _ _ l0_0 _ _ l0_1 x3_2 t421 _ ?side1 ?side2 ?side3 ?side4 A51.out).mono ?_); (case side1 => repeat (first | exact (Kd.C_below HR0_0.out HB.out) | (with_reducible refine Kd.C_alloc ?_ _) | (with_reducible refine Kd.C_drewN ?_ _) | (with_reducible refine Kd.C_drew ?_))); (case side2 => exact HC0_0.out); (case side3 => repeat (first | exact (Kd.C_below HR0_1.out HB.out) | (with_reducible refine Kd.C_alloc ?_ _) | (with_reducible refine Kd.C_drewN ?_ _) | (with_reducible refine Kd.C_drew ?_))); (case side4 => exact HC0_1.out); rintro e w55 ⟨rfl, hb⟩; have n0_ := Aside0.mk (blk_below (g := gb413) (o := .cells #[.slice A0_0 l0_0.length c0_0, .slice (some ad416) l0_1.length c0_1] 27 (0, 0)) (zz3) hb); have n1_ := Aside0.mk (blk_below (g := gb417) (o := .cells #[.int .i64 ((rd_T41 l0_1 x3_2).f0), .int .i64 ((rd_T41 l0_1 x3_2).f1), .int .i64 ((rd_T41 l0_1 x3_2).f2), .string ((rd_T41 l0_1 x3_2).f3)] 41 (0, 0)) (zz6) hb); have n2_ := Aside0.mk (below_step (zz0) hb); clear BK413; clear BK417; clear HB; have BK413 := n0_; have BK417 := n1_; have HB := n2_; clear n0_ n1_ n2_; (try clear hb); (try clear hb2); (try clear hk); (try clear hi))))
             (try simp only [Act.put, List.setIfInBounds_toArray, List.set_cons_zero, List.set_cons_succ])
             go_cut [102] (fun v102 wc => ∃ (kq : Nat) (x102_51 : Bool), v102 = .bool x102_51 ∧ Aside0 (R4_Check.j3 kq x3_2 t421 x102_51 l0_0 l0_1 ((rd_T41 l0_1 x3_2).f0) ((rd_T41 l0_1 x3_2).f1) ((rd_T41 l0_1 x3_2).f2) ((rd_T41 l0_1 x3_2).f3) = some r) ∧ Aside0 (kq ≤ kj25) ∧ Aside0 (wc.heap[gb413]? = some (.cells #[(.slice A0_0 l0_0.length c0_0), (.slice (some ad416) l0_1.length c0_1)] 27 (0, 0))) ∧ Aside0 (wc.heap[gb417]? = some (.cells #[.int .i64 ((rd_T41 l0_1 x3_2).f0), .int .i64 ((rd_T41 l0_1 x3_2).f1), .int .i64 ((rd_T41 l0_1 x3_2).f2), .string ((rd_T41 l0_1 x3_2).f3)] 41 (0, 0))) ∧ Aside0 (Below w.heap.size w wc))
             case first =>
              as_aux_lemma =>
               have H := HC52.out
               clear HC52
               by_cases c56 : ((rd_T41 l0_1 x3_2).f0) = 1
               ·rw [if_pos c56] at H
                have c56b0 : (((rd_T41 l0_1 x3_2).f0) == 1) = true := beq_iff_eq.mpr c56
                have c56b1 : (((rd_T41 l0_1 x3_2).f0) != 1) = false := bne_eq_false_iff_eq.mpr c56
                clear c56
                (first | rw [c56b0] | (simp only [i64_w, i32_w]; rw [c56b0]) | skip)
                replace H := Option.bind_eq_some_iff.mp H
                obtain ⟨t422, A570, H⟩ := H
                try dsimp only at H
                have A57 := Aside0.mk A570
                clear A570
                have H' := Aside0.mk H
                clear H
                have hnb58 := NB417_413.out
                have hnc58 := NB413_417.out
                have hcz59_0 : w55.cell? ⟨gb417, 0, none⟩ = some (.int .i64 ((rd_T41 l0_1 x3_2).f0)) := (blk_cell BK417.out 0).trans rfl
                have hcz59_1 : w55.cell? ⟨gb417, 1, none⟩ = some (.int .i64 ((rd_T41 l0_1 x3_2).f1)) := (blk_cell BK417.out 1).trans rfl
                have hcz59_2 : w55.cell? ⟨gb417, 2, none⟩ = some (.int .i64 ((rd_T41 l0_1 x3_2).f2)) := (blk_cell BK417.out 2).trans rfl
                have hcz59_3 : w55.cell? ⟨gb417, 3, none⟩ = some (.string ((rd_T41 l0_1 x3_2).f3)) := (blk_cell BK417.out 3).trans rfl
                have hfz59_0 := blk_frozen BK417.out 0
                have hfz59_1 := blk_frozen BK417.out 1
                have hfz59_2 := blk_frozen BK417.out 2
                have hfz59_3 := blk_frozen BK417.out 3
                have hcz60_0 : w55.cell? ⟨gb413, 0, none⟩ = some (.slice A0_0 l0_0.length c0_0) := (blk_cell BK413.out 0).trans rfl
                have hcz60_1 : w55.cell? ⟨gb413, 1, none⟩ = some (.slice (some ad416) l0_1.length c0_1) := (blk_cell BK413.out 1).trans rfl
                have hfz60_0 := blk_frozen BK413.out 0
                have hfz60_1 := blk_frozen BK413.out 1
                go_wp2_with (first | (go_at_call 52; (with_reducible refine (R4_depth.calls kj25 _ _ l0_0 _ _ l0_1 x3_2 t422 _ ?side1 ?side2 ?side3 ?side4 A57.out).mono ?_); (case side1 => repeat (first | exact (Kd.C_below HR0_0.out HB.out) | (with_reducible refine Kd.C_alloc ?_ _) | (with_reducible refine Kd.C_drewN ?_ _) | (with_reducible refine Kd.C_drew ?_))); (case side2 => exact HC0_0.out); (case side3 => repeat (first | exact (Kd.C_below HR0_1.out HB.out) | (with_reducible refine Kd.C_alloc ?_ _) | (with_reducible refine Kd.C_drewN ?_ _) | (with_reducible refine Kd.C_drew ?_))); (case side4 => exact HC0_1.out); rintro e w61 ⟨rfl, hb⟩; have n0_ := Aside0.mk (blk_below (g := gb413) (o := .cells #[.slice A0_0 l0_0.length c0_0, .slice (some ad416) l0_1.length c0_1] 27 (0, 0)) (zz3) hb); have n1_ := Aside0.mk (blk_below (g := gb417) (o := .cells #[.int .i64 ((rd_T41 l0_1 x3_2).f0), .int .i64 ((rd_T41 l0_1 x3_2).f1), .int .i64 ((rd_T41 l0_1 x3_2).f2), .string ((rd_T41 l0_1 x3_2).f3)] 41 (0, 0)) (zz6) hb); have n2_ := Aside0.mk (below_step (zz0) hb); clear BK413; clear BK417; clear HB; have BK413 := n0_; have BK417 := n1_; have HB := n2_; clear n0_ n1_ n2_; (try clear hb); (try clear hb2); (try clear hk); (try clear hi)))
                repeat (go_quiet (first | (go_at_call 52; (with_reducible refine (R4_depth.calls kj25 _ _ l0_0 _ _ l0_1 x3_2 t422 _ ?side1 ?side2 ?side3 ?side4 A57.out).mono ?_); (case side1 => repeat (first | exact (Kd.C_below HR0_0.out HB.out) | (with_reducible refine Kd.C_alloc ?_ _) | (with_reducible refine Kd.C_drewN ?_ _) | (with_reducible refine Kd.C_drew ?_))); (case side2 => exact HC0_0.out); (case side3 => repeat (first | exact (Kd.C_below HR0_1.out HB.out) | (with_reducible refine Kd.C_alloc ?_ _) | (with_reducible refine Kd.C_drewN ?_ _) | (with_reducible refine Kd.C_drew ?_))); (case side4 => exact HC0_1.out); rintro e w61 ⟨rfl, hb⟩; have n0_ := Aside0.mk (blk_below (g := gb413) (o := .cells #[.slice A0_0 l0_0.length c0_0, .slice (some ad416) l0_1.length c0_1] 27 (0, 0)) (zz3) hb); have n1_ := Aside0.mk (blk_below (g := gb417) (o := .cells #[.int .i64 ((rd_T41 l0_1 x3_2).f0), .int .i64 ((rd_T41 l0_1 x3_2).f1), .int .i64 ((rd_T41 l0_1 x3_2).f2), .string ((rd_T41 l0_1 x3_2).f3)] 41 (0, 0)) (zz6) hb); have n2_ := Aside0.mk (below_step (zz0) hb); clear BK413; clear BK417; clear HB; have BK413 := n0_; have BK417 := n1_; have HB := n2_; clear n0_ n1_ n2_; (try clear hb); (try clear hb2); (try clear hk); (try clear hi))); try go_wp2_with (first | (go_at_call 52; (with_reducible refine (R4_depth.calls kj25 _ _ l0_0 _ _ l0_1 x3_2 t422 _ ?side1 ?side2 ?side3 ?side4 A57.out).mono ?_); (case side1 => repeat (first | exact (Kd.C_below HR0_0.out HB.out) | (with_reducible refine Kd.C_alloc ?_ _) | (with_reducible refine Kd.C_drewN ?_ _) | (with_reducible refine Kd.C_drew ?_))); (case side2 => exact HC0_0.out); (case side3 => repeat (first | exact (Kd.C_below HR0_1.out HB.out) | (with_reducible refine Kd.C_alloc ?_ _) | (with_reducible refine Kd.C_drewN ?_ _) | (with_reducible refine Kd.C_drew ?_))); (case side4 => exact HC0_1.out); rintro e w61 ⟨rfl, hb⟩; have n0_ := Aside0.mk (blk_below (g := gb413) (o := .cells #[.slice A0_0 l0_0.length c0_0, .slice (some ad416) l0_1.length c0_1] 27 (0, 0)) (zz3) hb); have n1_ := Aside0.mk (blk_below (g := gb417) (o := .cells #[.int .i64 ((rd_T41 l0_1 x3_2).f0), .int .i64 ((rd_T41 l0_1 x3_2).f1), .int .i64 ((rd_T41 l0_1 x3_2).f2), .string ((rd_T41 l0_1 x3_2).f3)] 41 (0, 0)) (zz6) hb); have n2_ := Aside0.mk (below_step (zz0) hb); clear BK413; clear BK417; clear HB; have BK413 := n0_; have BK417 := n1_; have HB := n2_; clear n0_ n1_ n2_; (try clear hb); (try clear hb2); (try clear hk); (try clear hi))))
                go_meet
                case rel => exact ⟨_, (decide (t422 > 64)), (zz7), H', ⟨by have := HJ1.out; have := HK2.out; have := HJ25.out; first | omega | exact Nat.le_refl _⟩, ⟨zz3⟩, ⟨zz6⟩, ⟨zz0⟩⟩
               ·rw [if_neg c56] at H
                have c56b0 : (((rd_T41 l0_1 x3_2).f0) == 1) = false := beq_eq_false_iff_ne.mpr c56
                have c56b1 : (((rd_T41 l0_1 x3_2).f0) != 1) = true := bne_iff_ne.mpr c56
                (first | rw [c56b0] | (simp only [i64_w, i32_w]; rw [c56b0]) | skip)
                have H' := Aside0.mk H
                clear H
                have hnb62 := NB417_413.out
                have hnc62 := NB413_417.out
                have hcz63_0 : w55.cell? ⟨gb417, 0, none⟩ = some (.int .i64 ((rd_T41 l0_1 x3_2).f0)) := (blk_cell BK417.out 0).trans rfl
                have hcz63_1 : w55.cell? ⟨gb417, 1, none⟩ = some (.int .i64 ((rd_T41 l0_1 x3_2).f1)) := (blk_cell BK417.out 1).trans rfl
                have hcz63_2 : w55.cell? ⟨gb417, 2, none⟩ = some (.int .i64 ((rd_T41 l0_1 x3_2).f2)) := (blk_cell BK417.out 2).trans rfl
                have hcz63_3 : w55.cell? ⟨gb417, 3, none⟩ = some (.string ((rd_T41 l0_1 x3_2).f3)) := (blk_cell BK417.out 3).trans rfl
                have hfz63_0 := blk_frozen BK417.out 0
                have hfz63_1 := blk_frozen BK417.out 1
                have hfz63_2 := blk_frozen BK417.out 2
                have hfz63_3 := blk_frozen BK417.out 3
                go_wp2
                repeat (go_quiet (fail); try go_wp2)
                go_meet
                case rel => exact ⟨_, (false), (zz7), H', ⟨by have := HJ1.out; have := HK2.out; have := HJ25.out; first | omega | exact Nat.le_refl _⟩, ⟨zz3⟩, ⟨zz6⟩, ⟨zz0⟩⟩
             case rest =>
              as_aux_lemma =>
               clear HC52
               try clear c1
               try clear c2
               try clear p2
               try clear c3
               try clear c4
               try clear c4b0
               try clear c4b1
               try clear c4b2
               try clear p4
               try clear q4
               try clear hx4
               try clear qi4
               try clear c5
               try clear c6
               try clear c6b0
               try clear c6b1
               try clear p6
               try clear c8
               try clear c8b0
               try clear c8b1
               try clear c10
               try clear c10b0
               try clear c10b1
               try clear c11
               try clear c11b0
               try clear c11b1
               try clear c14
               try clear c15
               try clear c15b0
               try clear c16
               try clear c16b0
               try clear c18
               try clear c19
               try clear c19b0
               try clear c19b1
               try clear c20
               try clear c22
               try clear c29
               try clear c33
               try clear c33b0
               try clear c34
               try clear c36
               try clear c36b0
               try clear c37
               try clear c39
               try clear c39b0
               try clear c40
               try clear c40b0
               try clear c41
               try clear c41b0
               try clear c41b1
               try clear p41
               try clear q41
               try clear hx41
               try clear qi41
               try clear c43
               try clear c47
               try clear c50
               try clear c53
               try clear c56
               try clear c56b0
               try clear c56b1
               try clear c58
               try clear c62
               try clear hcz12_0
               try clear hcz12_1
               try clear hcz13_0
               try clear hcz13_1
               try clear hcz20_0
               try clear hcz20_1
               try clear hcz23_0
               try clear hcz23_1
               try clear hcz23_2
               try clear hcz23_3
               try clear hcz24_0
               try clear hcz24_1
               try clear hcz27_0
               try clear hcz27_1
               try clear hcz30_0
               try clear hcz30_1
               try clear hcz30_2
               try clear hcz30_3
               try clear hcz31_0
               try clear hcz31_1
               try clear hcz35_0
               try clear hcz35_1
               try clear hcz35_2
               try clear hcz35_3
               try clear hcz38_0
               try clear hcz38_1
               try clear hcz38_2
               try clear hcz38_3
               try clear hcz44_0
               try clear hcz44_1
               try clear hcz44_2
               try clear hcz44_3
               try clear hcz45_0
               try clear hcz45_1
               try clear hcz48_0
               try clear hcz48_1
               try clear hcz48_2
               try clear hcz48_3
               try clear hcz49_0
               try clear hcz49_1
               try clear hcz54_0
               try clear hcz54_1
               try clear hcz59_0
               try clear hcz59_1
               try clear hcz59_2
               try clear hcz59_3
               try clear hcz5_0
               try clear hcz5_1
               try clear hcz60_0
               try clear hcz60_1
               try clear hcz63_0
               try clear hcz63_1
               try clear hcz63_2
               try clear hcz63_3
               try clear hcz7_0
               try clear hcz7_1
               try clear hcz9_0
               try clear hcz9_1
               try clear hfz12_0
               try clear hfz12_1
               try clear hfz13_0
               try clear hfz13_1
               try clear hfz20_0
               try clear hfz20_1
               try clear hfz23_0
               try clear hfz23_1
               try clear hfz23_2
               try clear hfz23_3
               try clear hfz24_0
               try clear hfz24_1
               try clear hfz27_0
               try clear hfz27_1
               try clear hfz30_0
               try clear hfz30_1
               try clear hfz30_2
               try clear hfz30_3
               try clear hfz31_0
               try clear hfz31_1
               try clear hfz35_0
               try clear hfz35_1
               try clear hfz35_2
               try clear hfz35_3
               try clear hfz38_0
               try clear hfz38_1
               try clear hfz38_2
               try clear hfz38_3
               try clear hfz44_0
               try clear hfz44_1
               try clear hfz44_2
               try clear hfz44_3
               try clear hfz45_0
               try clear hfz45_1
               try clear hfz48_0
               try clear hfz48_1
               try clear hfz48_2
               try clear hfz48_3
               try clear hfz49_0
               try clear hfz49_1
               try clear hfz54_0
               try clear hfz54_1
               try clear hfz59_0
               try clear hfz59_1
               try clear hfz59_2
               try clear hfz59_3
               try clear hfz5_0
               try clear hfz5_1
               try clear hfz60_0
               try clear hfz60_1
               try clear hfz63_0
               try clear hfz63_1
               try clear hfz63_2
               try clear hfz63_3
               try clear hfz7_0
               try clear hfz7_1
               try clear hfz9_0
               try clear hfz9_1
               try clear hx414_0
               try clear hx414_1
               try clear hx414_2
               try clear hx414_3
               try clear hx415_0
               try clear hx415_1
               try clear hx415_2
               try clear hx415_3
               try clear hx416_0
               try clear hx416_1
               try clear hx416_2
               try clear hx416_3
               try clear hx419_0
               try clear hx419_1
               try clear hx419_2
               try clear hx419_3
               try clear p2
               try clear p4
               try clear p41
               try clear p414
               try clear p415
               try clear p416
               try clear p419
               try clear p6
               try clear q4
               try clear q41
               try clear q414
               try clear q415
               try clear q416
               try clear q419
               obtain ⟨kq, x102_51, rfl, HA, HJ51, BK413, BK417, HB⟩ := hcut
               cases kq with
               | zero => exact absurd HA.out (by simp [R4_Check.j3])
               | succ kj51 =>
                have H := HA.out
                clear HA
                simp only [R4_Check.j3] at H
                by_cases c64 : x102_51 = true
                ·subst c64
                 rw [if_pos rfl] at H
                 obtain rfl := Option.some.inj H
                 go_wp2
                 repeat (go_quiet (fail); try go_wp2)
                 go_ret
                 exact ⟨zz11, zz0⟩
                ·replace c64 := Bool.eq_false_iff.mpr c64
                 subst c64
                 rw [if_neg (show ¬ (false = true) by decide)] at H
                 have HC65 := Aside0.mk H
                 clear H
                 go_upto_region 16 with (fail)
                 repeat (go_quiet (fail); go_upto_region 16 with (fail))
                 go_cut [132] (fun v132 wc => ∃ (kq : Nat) (x132_64 : Bool), v132 = .bool x132_64 ∧ Aside0 (R4_Check.j4 kq x3_2 x132_64 l0_0 l0_1 ((rd_T41 l0_1 x3_2).f0) ((rd_T41 l0_1 x3_2).f1) ((rd_T41 l0_1 x3_2).f2) ((rd_T41 l0_1 x3_2).f3) = some r) ∧ Aside0 (kq ≤ kj51) ∧ Aside0 (wc.heap[gb413]? = some (.cells #[(.slice A0_0 l0_0.length c0_0), (.slice (some ad416) l0_1.length c0_1)] 27 (0, 0))) ∧ Aside0 (wc.heap[gb417]? = some (.cells #[.int .i64 ((rd_T41 l0_1 x3_2).f0), .int .i64 ((rd_T41 l0_1 x3_2).f1), .int .i64 ((rd_T41 l0_1 x3_2).f2), .string ((rd_T41 l0_1 x3_2).f3)] 41 (0, 0))) ∧ Aside0 (Below w.heap.size w wc))
                 case first =>
                  as_aux_lemma =>
                   have H := HC65.out
                   clear HC65
                   by_cases c66 : t421 ≥ 0
                   ·rw [if_pos c66] at H
                    have c66b0 : decide (0 ≤ t421) = true := decide_eq_true c66
                    clear c66
                    (first | rw [c66b0] | (simp only [i64_w, i32_w]; rw [c66b0]) | skip)
                    by_cases c67 : ((rd_T41 l0_1 x3_2).f0) = 2
                    ·rw [if_pos c67] at H
                     have c67b0 : (((rd_T41 l0_1 x3_2).f0) == 2) = true := beq_iff_eq.mpr c67
                     have c67b1 : (((rd_T41 l0_1 x3_2).f0) != 2) = false := bne_eq_false_iff_eq.mpr c67
                     clear c67
                     by_cases c68 : 0 ≤ t421
                     ·rw [if_pos c68] at H
                      have c68b0 : decide (0 ≤ t421) = true := decide_eq_true c68
                      clear c68
                      by_cases c69 : t421 < (l0_1.length : Int)
                      ·rw [if_pos c69] at H
                       have c69b0 : decide (t421 < (l0_1.length : Int)) = true := decide_eq_true c69
                       clear c69
                       by_cases c70 : ((rd_T41 l0_1 t421).f0) = 2
                       ·rw [if_pos c70] at H
                        have c70b0 : (((rd_T41 l0_1 t421).f0) == 2) = true := beq_iff_eq.mpr c70
                        have c70b1 : (((rd_T41 l0_1 t421).f0) != 2) = false := bne_eq_false_iff_eq.mpr c70
                        clear c70
                        by_cases c71 : ((rd_T41 l0_1 x3_2).f0) = 3
                        ·rw [if_pos c71] at H
                         have c71b0 : (((rd_T41 l0_1 x3_2).f0) == 3) = true := beq_iff_eq.mpr c71
                         have c71b1 : (((rd_T41 l0_1 x3_2).f0) != 3) = false := bne_eq_false_iff_eq.mpr c71
                         clear c71
                         have H' := Aside0.mk H
                         clear H
                         have hnb72 := NB417_413.out
                         have hnc72 := NB413_417.out
                         have hcz73_0 : wc.cell? ⟨gb417, 0, none⟩ = some (.int .i64 ((rd_T41 l0_1 x3_2).f0)) := (blk_cell BK417.out 0).trans rfl
                         have hcz73_1 : wc.cell? ⟨gb417, 1, none⟩ = some (.int .i64 ((rd_T41 l0_1 x3_2).f1)) := (blk_cell BK417.out 1).trans rfl
                         have hcz73_2 : wc.cell? ⟨gb417, 2, none⟩ = some (.int .i64 ((rd_T41 l0_1 x3_2).f2)) := (blk_cell BK417.out 2).trans rfl
                         have hcz73_3 : wc.cell? ⟨gb417, 3, none⟩ = some (.string ((rd_T41 l0_1 x3_2).f3)) := (blk_cell BK417.out 3).trans rfl
                         have hfz73_0 := blk_frozen BK417.out 0
                         have hfz73_1 := blk_frozen BK417.out 1
                         have hfz73_2 := blk_frozen BK417.out 2
                         have hfz73_3 := blk_frozen BK417.out 3
                         have hcz74_0 : wc.cell? ⟨gb413, 0, none⟩ = some (.slice A0_0 l0_0.length c0_0) := (blk_cell BK413.out 0).trans rfl
                         have hcz74_1 : wc.cell? ⟨gb413, 1, none⟩ = some (.slice (some ad416) l0_1.length c0_1) := (blk_cell BK413.out 1).trans rfl
                         have hfz74_0 := blk_frozen BK413.out 0
                         have hfz74_1 := blk_frozen BK413.out 1
                         have p423 : 0 ≤ (t421 : Int) := of_decide_eq_true (zz1)
                         have q423 : t421 < (l0_1.length : Int) := of_decide_eq_true (zz1)
                         obtain ⟨ad423, e423, hx423_0, hx423_1, hx423_2, hx423_3⟩ := at_T41 HR0_1.out t421 p423 q423
                         obtain rfl : ad416 = ad423 := (by injection e423)
                         replace hx423_0 := (HB.out.cell (World.block_lt_of_cell? w _ hx423_0)).trans hx423_0
                         replace hx423_1 := (HB.out.cell (World.block_lt_of_cell? w _ hx423_1)).trans hx423_1
                         replace hx423_2 := (HB.out.cell (World.block_lt_of_cell? w _ hx423_2)).trans hx423_2
                         replace hx423_3 := (HB.out.cell (World.block_lt_of_cell? w _ hx423_3)).trans hx423_3
                         replace p423 := eq_true p423
                         replace q423 := eq_true q423
                         have p424 : 0 ≤ (t421 : Int) := of_decide_eq_true (zz1)
                         have q424 : t421 < (l0_1.length : Int) := of_decide_eq_true (zz1)
                         obtain ⟨ad424, e424, hx424_0, hx424_1, hx424_2, hx424_3⟩ := at_T41 HR0_1.out t421 p424 q424
                         obtain rfl : ad416 = ad424 := (by injection e424)
                         replace hx424_0 := (HB.out.cell (World.block_lt_of_cell? w _ hx424_0)).trans hx424_0
                         replace hx424_1 := (HB.out.cell (World.block_lt_of_cell? w _ hx424_1)).trans hx424_1
                         replace hx424_2 := (HB.out.cell (World.block_lt_of_cell? w _ hx424_2)).trans hx424_2
                         replace hx424_3 := (HB.out.cell (World.block_lt_of_cell? w _ hx424_3)).trans hx424_3
                         replace p424 := eq_true p424
                         replace q424 := eq_true q424
                         go_wp2
                         repeat (go_quiet (fail); try go_wp2)
                         go_meet
                         case rel => exact ⟨_, ((((rd_T41 l0_1 t421).f0) == 3)), (zz7), H', ⟨zz25⟩, ⟨zz3⟩, ⟨zz6⟩, ⟨zz0⟩⟩
                        ·rw [if_neg c71] at H
                         have c71b0 : (((rd_T41 l0_1 x3_2).f0) == 3) = false := beq_eq_false_iff_ne.mpr c71
                         have c71b1 : (((rd_T41 l0_1 x3_2).f0) != 3) = true := bne_iff_ne.mpr c71
                         have H' := Aside0.mk H
                         clear H
                         have hnb75 := NB417_413.out
                         have hnc75 := NB413_417.out
                         have hcz76_0 : wc.cell? ⟨gb417, 0, none⟩ = some (.int .i64 ((rd_T41 l0_1 x3_2).f0)) := (blk_cell BK417.out 0).trans rfl
                         have hcz76_1 : wc.cell? ⟨gb417, 1, none⟩ = some (.int .i64 ((rd_T41 l0_1 x3_2).f1)) := (blk_cell BK417.out 1).trans rfl
                         have hcz76_2 : wc.cell? ⟨gb417, 2, none⟩ = some (.int .i64 ((rd_T41 l0_1 x3_2).f2)) := (blk_cell BK417.out 2).trans rfl
                         have hcz76_3 : wc.cell? ⟨gb417, 3, none⟩ = some (.string ((rd_T41 l0_1 x3_2).f3)) := (blk_cell BK417.out 3).trans rfl
                         have hfz76_0 := blk_frozen BK417.out 0
                         have hfz76_1 := blk_frozen BK417.out 1
                         have hfz76_2 := blk_frozen BK417.out 2
                         have hfz76_3 := blk_frozen BK417.out 3
                         have hcz77_0 : wc.cell? ⟨gb413, 0, none⟩ = some (.slice A0_0 l0_0.length c0_0) := (blk_cell BK413.out 0).trans rfl
                         have hcz77_1 : wc.cell? ⟨gb413, 1, none⟩ = some (.slice (some ad416) l0_1.length c0_1) := (blk_cell BK413.out 1).trans rfl
                         have hfz77_0 := blk_frozen BK413.out 0
                         have hfz77_1 := blk_frozen BK413.out 1
                         have p423 : 0 ≤ (t421 : Int) := of_decide_eq_true (zz1)
                         have q423 : t421 < (l0_1.length : Int) := of_decide_eq_true (zz1)
                         obtain ⟨ad423, e423, hx423_0, hx423_1, hx423_2, hx423_3⟩ := at_T41 HR0_1.out t421 p423 q423
                         obtain rfl : ad416 = ad423 := (by injection e423)
                         replace hx423_0 := (HB.out.cell (World.block_lt_of_cell? w _ hx423_0)).trans hx423_0
                         replace hx423_1 := (HB.out.cell (World.block_lt_of_cell? w _ hx423_1)).trans hx423_1
                         replace hx423_2 := (HB.out.cell (World.block_lt_of_cell? w _ hx423_2)).trans hx423_2
                         replace hx423_3 := (HB.out.cell (World.block_lt_of_cell? w _ hx423_3)).trans hx423_3
                         replace p423 := eq_true p423
                         replace q423 := eq_true q423
                         go_wp2
                         repeat (go_quiet (fail); try go_wp2)
                         go_meet
                         case rel => exact ⟨_, (false), (zz7), H', ⟨zz25⟩, ⟨zz3⟩, ⟨zz6⟩, ⟨zz0⟩⟩
                       ·rw [if_neg c70] at H
                        have c70b0 : (((rd_T41 l0_1 t421).f0) == 2) = false := beq_eq_false_iff_ne.mpr c70
                        have c70b1 : (((rd_T41 l0_1 t421).f0) != 2) = true := bne_iff_ne.mpr c70
                        have H' := Aside0.mk H
                        clear H
                        have hnb78 := NB417_413.out
                        have hnc78 := NB413_417.out
                        have hcz79_0 : wc.cell? ⟨gb417, 0, none⟩ = some (.int .i64 ((rd_T41 l0_1 x3_2).f0)) := (blk_cell BK417.out 0).trans rfl
                        have hcz79_1 : wc.cell? ⟨gb417, 1, none⟩ = some (.int .i64 ((rd_T41 l0_1 x3_2).f1)) := (blk_cell BK417.out 1).trans rfl
                        have hcz79_2 : wc.cell? ⟨gb417, 2, none⟩ = some (.int .i64 ((rd_T41 l0_1 x3_2).f2)) := (blk_cell BK417.out 2).trans rfl
                        have hcz79_3 : wc.cell? ⟨gb417, 3, none⟩ = some (.string ((rd_T41 l0_1 x3_2).f3)) := (blk_cell BK417.out 3).trans rfl
                        have hfz79_0 := blk_frozen BK417.out 0
                        have hfz79_1 := blk_frozen BK417.out 1
                        have hfz79_2 := blk_frozen BK417.out 2
                        have hfz79_3 := blk_frozen BK417.out 3
                        have hcz80_0 : wc.cell? ⟨gb413, 0, none⟩ = some (.slice A0_0 l0_0.length c0_0) := (blk_cell BK413.out 0).trans rfl
                        have hcz80_1 : wc.cell? ⟨gb413, 1, none⟩ = some (.slice (some ad416) l0_1.length c0_1) := (blk_cell BK413.out 1).trans rfl
                        have hfz80_0 := blk_frozen BK413.out 0
                        have hfz80_1 := blk_frozen BK413.out 1
                        have p423 : 0 ≤ (t421 : Int) := of_decide_eq_true (zz1)
                        have q423 : t421 < (l0_1.length : Int) := of_decide_eq_true (zz1)
                        obtain ⟨ad423, e423, hx423_0, hx423_1, hx423_2, hx423_3⟩ := at_T41 HR0_1.out t421 p423 q423
                        obtain rfl : ad416 = ad423 := (by injection e423)
                        replace hx423_0 := (HB.out.cell (World.block_lt_of_cell? w _ hx423_0)).trans hx423_0
                        replace hx423_1 := (HB.out.cell (World.block_lt_of_cell? w _ hx423_1)).trans hx423_1
                        replace hx423_2 := (HB.out.cell (World.block_lt_of_cell? w _ hx423_2)).trans hx423_2
                        replace hx423_3 := (HB.out.cell (World.block_lt_of_cell? w _ hx423_3)).trans hx423_3
                        replace p423 := eq_true p423
                        replace q423 := eq_true q423
                        go_wp2
                        repeat (go_quiet (fail); try go_wp2)
                        go_meet
                        case rel => exact ⟨_, (true), (zz7), H', ⟨zz25⟩, ⟨zz3⟩, ⟨zz6⟩, ⟨zz0⟩⟩
                      ·rw [if_neg c69] at H
                       exact absurd H (by simp)
                     ·rw [if_neg c68] at H
                      exact absurd H (by simp)
                    ·rw [if_neg c67] at H
                     have c67b0 : (((rd_T41 l0_1 x3_2).f0) == 2) = false := beq_eq_false_iff_ne.mpr c67
                     have c67b1 : (((rd_T41 l0_1 x3_2).f0) != 2) = true := bne_iff_ne.mpr c67
                     by_cases c81 : ((rd_T41 l0_1 x3_2).f0) = 3
                     ·rw [if_pos c81] at H
                      have c81b0 : (((rd_T41 l0_1 x3_2).f0) == 3) = true := beq_iff_eq.mpr c81
                      have c81b1 : (((rd_T41 l0_1 x3_2).f0) != 3) = false := bne_eq_false_iff_eq.mpr c81
                      clear c81
                      by_cases c82 : 0 ≤ t421
                      ·rw [if_pos c82] at H
                       have c82b0 : decide (0 ≤ t421) = true := decide_eq_true c82
                       clear c82
                       by_cases c83 : t421 < (l0_1.length : Int)
                       ·rw [if_pos c83] at H
                        have c83b0 : decide (t421 < (l0_1.length : Int)) = true := decide_eq_true c83
                        clear c83
                        have H' := Aside0.mk H
                        clear H
                        have hnb84 := NB417_413.out
                        have hnc84 := NB413_417.out
                        have hcz85_0 : wc.cell? ⟨gb417, 0, none⟩ = some (.int .i64 ((rd_T41 l0_1 x3_2).f0)) := (blk_cell BK417.out 0).trans rfl
                        have hcz85_1 : wc.cell? ⟨gb417, 1, none⟩ = some (.int .i64 ((rd_T41 l0_1 x3_2).f1)) := (blk_cell BK417.out 1).trans rfl
                        have hcz85_2 : wc.cell? ⟨gb417, 2, none⟩ = some (.int .i64 ((rd_T41 l0_1 x3_2).f2)) := (blk_cell BK417.out 2).trans rfl
                        have hcz85_3 : wc.cell? ⟨gb417, 3, none⟩ = some (.string ((rd_T41 l0_1 x3_2).f3)) := (blk_cell BK417.out 3).trans rfl
                        have hfz85_0 := blk_frozen BK417.out 0
                        have hfz85_1 := blk_frozen BK417.out 1
                        have hfz85_2 := blk_frozen BK417.out 2
                        have hfz85_3 := blk_frozen BK417.out 3
                        have hcz86_0 : wc.cell? ⟨gb413, 0, none⟩ = some (.slice A0_0 l0_0.length c0_0) := (blk_cell BK413.out 0).trans rfl
                        have hcz86_1 : wc.cell? ⟨gb413, 1, none⟩ = some (.slice (some ad416) l0_1.length c0_1) := (blk_cell BK413.out 1).trans rfl
                        have hfz86_0 := blk_frozen BK413.out 0
                        have hfz86_1 := blk_frozen BK413.out 1
                        have p425 : 0 ≤ (t421 : Int) := of_decide_eq_true (zz1)
                        have q425 : t421 < (l0_1.length : Int) := of_decide_eq_true (zz1)
                        obtain ⟨ad425, e425, hx425_0, hx425_1, hx425_2, hx425_3⟩ := at_T41 HR0_1.out t421 p425 q425
                        obtain rfl : ad416 = ad425 := (by injection e425)
                        replace hx425_0 := (HB.out.cell (World.block_lt_of_cell? w _ hx425_0)).trans hx425_0
                        replace hx425_1 := (HB.out.cell (World.block_lt_of_cell? w _ hx425_1)).trans hx425_1
                        replace hx425_2 := (HB.out.cell (World.block_lt_of_cell? w _ hx425_2)).trans hx425_2
                        replace hx425_3 := (HB.out.cell (World.block_lt_of_cell? w _ hx425_3)).trans hx425_3
                        replace p425 := eq_true p425
                        replace q425 := eq_true q425
                        go_wp2
                        repeat (go_quiet (fail); try go_wp2)
                        go_meet
                        case rel => exact ⟨_, ((((rd_T41 l0_1 t421).f0) == 3)), (zz7), H', ⟨zz25⟩, ⟨zz3⟩, ⟨zz6⟩, ⟨zz0⟩⟩
                       ·rw [if_neg c83] at H
                        exact absurd H (by simp)
                      ·rw [if_neg c82] at H
                       exact absurd H (by simp)
                     ·rw [if_neg c81] at H
                      have c81b0 : (((rd_T41 l0_1 x3_2).f0) == 3) = false := beq_eq_false_iff_ne.mpr c81
                      have c81b1 : (((rd_T41 l0_1 x3_2).f0) != 3) = true := bne_iff_ne.mpr c81
                      have H' := Aside0.mk H
                      clear H
                      have hnb87 := NB417_413.out
                      have hnc87 := NB413_417.out
                      have hcz88_0 : wc.cell? ⟨gb417, 0, none⟩ = some (.int .i64 ((rd_T41 l0_1 x3_2).f0)) := (blk_cell BK417.out 0).trans rfl
                      have hcz88_1 : wc.cell? ⟨gb417, 1, none⟩ = some (.int .i64 ((rd_T41 l0_1 x3_2).f1)) := (blk_cell BK417.out 1).trans rfl
                      have hcz88_2 : wc.cell? ⟨gb417, 2, none⟩ = some (.int .i64 ((rd_T41 l0_1 x3_2).f2)) := (blk_cell BK417.out 2).trans rfl
                      have hcz88_3 : wc.cell? ⟨gb417, 3, none⟩ = some (.string ((rd_T41 l0_1 x3_2).f3)) := (blk_cell BK417.out 3).trans rfl
                      have hfz88_0 := blk_frozen BK417.out 0
                      have hfz88_1 := blk_frozen BK417.out 1
                      have hfz88_2 := blk_frozen BK417.out 2
                      have hfz88_3 := blk_frozen BK417.out 3
                      go_wp2
                      repeat (go_quiet (fail); try go_wp2)
                      go_meet
                      case rel => exact ⟨_, (false), (zz7), H', ⟨zz25⟩, ⟨zz3⟩, ⟨zz6⟩, ⟨zz0⟩⟩
                   ·rw [if_neg c66] at H
                    have c66b0 : decide (0 ≤ t421) = false := decide_eq_false c66
                    clear c66
                    (first | rw [c66b0] | (simp only [i64_w, i32_w]; rw [c66b0]) | skip)
                    have H' := Aside0.mk H
                    clear H
                    go_wp2
                    repeat (go_quiet (fail); try go_wp2)
                    go_meet
                    case rel => exact ⟨_, (false), (zz7), H', ⟨zz25⟩, ⟨zz3⟩, ⟨zz6⟩, ⟨zz0⟩⟩
                 case rest =>
                  as_aux_lemma =>
                   clear HC65
                   try clear c1
                   try clear c2
                   try clear p2
                   try clear c3
                   try clear c4
                   try clear c4b0
                   try clear c4b1
                   try clear c4b2
                   try clear p4
                   try clear q4
                   try clear hx4
                   try clear qi4
                   try clear c5
                   try clear c6
                   try clear c6b0
                   try clear c6b1
                   try clear p6
                   try clear c7
                   try clear c8
                   try clear c8b0
                   try clear c8b1
                   try clear c10
                   try clear c10b0
                   try clear c10b1
                   try clear c11
                   try clear c11b0
                   try clear c11b1
                   try clear c14
                   try clear c15
                   try clear c15b0
                   try clear c16
                   try clear c16b0
                   try clear c18
                   try clear c19
                   try clear c19b0
                   try clear c19b1
                   try clear c20
                   try clear c22
                   try clear c29
                   try clear c33
                   try clear c33b0
                   try clear c34
                   try clear c36
                   try clear c36b0
                   try clear c37
                   try clear c39
                   try clear c39b0
                   try clear c40
                   try clear c40b0
                   try clear c41
                   try clear c41b0
                   try clear c41b1
                   try clear p41
                   try clear q41
                   try clear hx41
                   try clear qi41
                   try clear p42
                   try clear q42
                   try clear hx42
                   try clear c43
                   try clear c47
                   try clear c50
                   try clear c53
                   try clear c56
                   try clear c56b0
                   try clear c56b1
                   try clear c58
                   try clear c62
                   try clear c64
                   try clear c66
                   try clear c66b0
                   try clear c67
                   try clear c67b0
                   try clear c67b1
                   try clear c68
                   try clear c68b0
                   try clear c69
                   try clear c69b0
                   try clear c70
                   try clear c70b0
                   try clear c70b1
                   try clear c71
                   try clear c71b0
                   try clear c71b1
                   try clear c72
                   try clear c75
                   try clear c78
                   try clear c81
                   try clear c81b0
                   try clear c81b1
                   try clear c82
                   try clear c82b0
                   try clear c83
                   try clear c83b0
                   try clear c84
                   try clear c87
                   try clear hcz12_0
                   try clear hcz12_1
                   try clear hcz13_0
                   try clear hcz13_1
                   try clear hcz20_0
                   try clear hcz20_1
                   try clear hcz23_0
                   try clear hcz23_1
                   try clear hcz23_2
                   try clear hcz23_3
                   try clear hcz24_0
                   try clear hcz24_1
                   try clear hcz27_0
                   try clear hcz27_1
                   try clear hcz30_0
                   try clear hcz30_1
                   try clear hcz30_2
                   try clear hcz30_3
                   try clear hcz31_0
                   try clear hcz31_1
                   try clear hcz35_0
                   try clear hcz35_1
                   try clear hcz35_2
                   try clear hcz35_3
                   try clear hcz38_0
                   try clear hcz38_1
                   try clear hcz38_2
                   try clear hcz38_3
                   try clear hcz44_0
                   try clear hcz44_1
                   try clear hcz44_2
                   try clear hcz44_3
                   try clear hcz45_0
                   try clear hcz45_1
                   try clear hcz48_0
                   try clear hcz48_1
                   try clear hcz48_2
                   try clear hcz48_3
                   try clear hcz49_0
                   try clear hcz49_1
                   try clear hcz54_0
                   try clear hcz54_1
                   try clear hcz59_0
                   try clear hcz59_1
                   try clear hcz59_2
                   try clear hcz59_3
                   try clear hcz5_0
                   try clear hcz5_1
                   try clear hcz60_0
                   try clear hcz60_1
                   try clear hcz63_0
                   try clear hcz63_1
                   try clear hcz63_2
                   try clear hcz63_3
                   try clear hcz73_0
                   try clear hcz73_1
                   try clear hcz73_2
                   try clear hcz73_3
                   try clear hcz74_0
                   try clear hcz74_1
                   try clear hcz76_0
                   try clear hcz76_1
                   try clear hcz76_2
                   try clear hcz76_3
                   try clear hcz77_0
                   try clear hcz77_1
                   try clear hcz79_0
                   try clear hcz79_1
                   try clear hcz79_2
                   try clear hcz79_3
                   try clear hcz7_0
                   try clear hcz7_1
                   try clear hcz80_0
                   try clear hcz80_1
                   try clear hcz85_0
                   try clear hcz85_1
                   try clear hcz85_2
                   try clear hcz85_3
                   try clear hcz86_0
                   try clear hcz86_1
                   try clear hcz88_0
                   try clear hcz88_1
                   try clear hcz88_2
                   try clear hcz88_3
                   try clear hcz9_0
                   try clear hcz9_1
                   try clear hfz12_0
                   try clear hfz12_1
                   try clear hfz13_0
                   try clear hfz13_1
                   try clear hfz20_0
                   try clear hfz20_1
                   try clear hfz23_0
                   try clear hfz23_1
                   try clear hfz23_2
                   try clear hfz23_3
                   try clear hfz24_0
                   try clear hfz24_1
                   try clear hfz27_0
                   try clear hfz27_1
                   try clear hfz30_0
                   try clear hfz30_1
                   try clear hfz30_2
                   try clear hfz30_3
                   try clear hfz31_0
                   try clear hfz31_1
                   try clear hfz35_0
                   try clear hfz35_1
                   try clear hfz35_2
                   try clear hfz35_3
                   try clear hfz38_0
                   try clear hfz38_1
                   try clear hfz38_2
                   try clear hfz38_3
                   try clear hfz44_0
                   try clear hfz44_1
                   try clear hfz44_2
                   try clear hfz44_3
                   try clear hfz45_0
                   try clear hfz45_1
                   try clear hfz48_0
                   try clear hfz48_1
                   try clear hfz48_2
                   try clear hfz48_3
                   try clear hfz49_0
                   try clear hfz49_1
                   try clear hfz54_0
                   try clear hfz54_1
                   try clear hfz59_0
                   try clear hfz59_1
                   try clear hfz59_2
                   try clear hfz59_3
                   try clear hfz5_0
                   try clear hfz5_1
                   try clear hfz60_0
                   try clear hfz60_1
                   try clear hfz63_0
                   try clear hfz63_1
                   try clear hfz63_2
                   try clear hfz63_3
                   try clear hfz73_0
                   try clear hfz73_1
                   try clear hfz73_2
                   try clear hfz73_3
                   try clear hfz74_0
                   try clear hfz74_1
                   try clear hfz76_0
                   try clear hfz76_1
                   try clear hfz76_2
                   try clear hfz76_3
                   try clear hfz77_0
                   try clear hfz77_1
                   try clear hfz79_0
                   try clear hfz79_1
                   try clear hfz79_2
                   try clear hfz79_3
                   try clear hfz7_0
                   try clear hfz7_1
                   try clear hfz80_0
                   try clear hfz80_1
                   try clear hfz85_0
                   try clear hfz85_1
                   try clear hfz85_2
                   try clear hfz85_3
                   try clear hfz86_0
                   try clear hfz86_1
                   try clear hfz88_0
                   try clear hfz88_1
                   try clear hfz88_2
                   try clear hfz88_3
                   try clear hfz9_0
                   try clear hfz9_1
                   try clear hx414_0
                   try clear hx414_1
                   try clear hx414_2
                   try clear hx414_3
                   try clear hx415_0
                   try clear hx415_1
                   try clear hx415_2
                   try clear hx415_3
                   try clear hx416_0
                   try clear hx416_1
                   try clear hx416_2
                   try clear hx416_3
                   try clear hx419_0
                   try clear hx419_1
                   try clear hx419_2
                   try clear hx419_3
                   try clear hx423_0
                   try clear hx423_1
                   try clear hx423_2
                   try clear hx423_3
                   try clear hx424_0
                   try clear hx424_1
                   try clear hx424_2
                   try clear hx424_3
                   try clear hx425_0
                   try clear hx425_1
                   try clear hx425_2
                   try clear hx425_3
                   try clear p2
                   try clear p4
                   try clear p41
                   try clear p414
                   try clear p415
                   try clear p416
                   try clear p419
                   try clear p423
                   try clear p424
                   try clear p425
                   try clear p6
                   try clear q4
                   try clear q41
                   try clear q414
                   try clear q415
                   try clear q416
                   try clear q419
                   try clear q423
                   try clear q424
                   try clear q425
                   obtain ⟨kq, x132_64, rfl, HA, HJ64, BK413, BK417, HB⟩ := hcut
                   cases kq with
                   | zero => exact absurd HA.out (by simp [R4_Check.j4])
                   | succ kj64 =>
                    have H := HA.out
                    clear HA
                    simp only [R4_Check.j4] at H
                    by_cases c89 : x132_64 = true
                    ·subst c89
                     rw [if_pos rfl] at H
                     obtain rfl := Option.some.inj H
                     go_wp2
                     repeat (go_quiet (fail); try go_wp2)
                     go_ret
                     exact ⟨zz11, zz0⟩
                    ·replace c89 := Bool.eq_false_iff.mpr c89
                     subst c89
                     rw [if_neg (show ¬ (false = true) by decide)] at H
                     have H' := Aside0.mk H
                     clear H
                     have hnb90 := NB417_413.out
                     have hnc90 := NB413_417.out
                     have hcz91_0 : wc.cell? ⟨gb417, 0, none⟩ = some (.int .i64 ((rd_T41 l0_1 x3_2).f0)) := (blk_cell BK417.out 0).trans rfl
                     have hcz91_1 : wc.cell? ⟨gb417, 1, none⟩ = some (.int .i64 ((rd_T41 l0_1 x3_2).f1)) := (blk_cell BK417.out 1).trans rfl
                     have hcz91_2 : wc.cell? ⟨gb417, 2, none⟩ = some (.int .i64 ((rd_T41 l0_1 x3_2).f2)) := (blk_cell BK417.out 2).trans rfl
                     have hcz91_3 : wc.cell? ⟨gb417, 3, none⟩ = some (.string ((rd_T41 l0_1 x3_2).f3)) := (blk_cell BK417.out 3).trans rfl
                     have hfz91_0 := blk_frozen BK417.out 0
                     have hfz91_1 := blk_frozen BK417.out 1
                     have hfz91_2 := blk_frozen BK417.out 2
                     have hfz91_3 := blk_frozen BK417.out 3
                     go_wp2
                     repeat (go_quiet (fail); try go_wp2)
                     go_loopg [7] kj64 (fun kq v7 w' => ∃ (x7_6 : Int), v7 = .int .i64 x7_6 ∧ Aside0 (R4_Check.l1 kq x3_2 x7_6 l0_0 l0_1 ((rd_T41 l0_1 x3_2).f0) ((rd_T41 l0_1 x3_2).f1) ((rd_T41 l0_1 x3_2).f2) ((rd_T41 l0_1 x3_2).f3) = some r) ∧ Aside0 (kq ≤ kj64) ∧ Aside0 (w'.heap[gb413]? = some (.cells #[(.slice A0_0 l0_0.length c0_0), (.slice (some ad416) l0_1.length c0_1)] 27 (0, 0))) ∧ Aside0 (w'.heap[gb417]? = some (.cells #[.int .i64 ((rd_T41 l0_1 x3_2).f0), .int .i64 ((rd_T41 l0_1 x3_2).f1), .int .i64 ((rd_T41 l0_1 x3_2).f2), .string ((rd_T41 l0_1 x3_2).f3)] 41 (0, 0))) ∧ Aside0 (Below w.heap.size w w'))
                     case atStart => exact ⟨(wrap64 (((rd_T41 l0_1 x3_2).f2) + 1)), (zz7), H', ⟨Nat.le_refl _⟩, ⟨zz3⟩, ⟨zz6⟩, ⟨zz0⟩⟩
                     case round =>
                      as_aux_lemma =>
                       clear H'
                       try clear c1
                       try clear c2
                       try clear p2
                       try clear c3
                       try clear c4
                       try clear c4b0
                       try clear c4b1
                       try clear c4b2
                       try clear p4
                       try clear q4
                       try clear hx4
                       try clear qi4
                       try clear c5
                       try clear c6
                       try clear c6b0
                       try clear c6b1
                       try clear p6
                       try clear c7
                       try clear c8
                       try clear c8b0
                       try clear c8b1
                       try clear c9
                       try clear c10
                       try clear c10b0
                       try clear c10b1
                       try clear c11
                       try clear c11b0
                       try clear c11b1
                       try clear c14
                       try clear c15
                       try clear c15b0
                       try clear c16
                       try clear c16b0
                       try clear c18
                       try clear c19
                       try clear c19b0
                       try clear c19b1
                       try clear c20
                       try clear c22
                       try clear c29
                       try clear c33
                       try clear c33b0
                       try clear c34
                       try clear c36
                       try clear c36b0
                       try clear c37
                       try clear c39
                       try clear c39b0
                       try clear c40
                       try clear c40b0
                       try clear c41
                       try clear c41b0
                       try clear c41b1
                       try clear p41
                       try clear q41
                       try clear hx41
                       try clear qi41
                       try clear p42
                       try clear q42
                       try clear hx42
                       try clear c43
                       try clear c47
                       try clear c50
                       try clear c53
                       try clear c56
                       try clear c56b0
                       try clear c56b1
                       try clear c58
                       try clear c62
                       try clear c64
                       try clear p64
                       try clear c66
                       try clear c66b0
                       try clear c67
                       try clear c67b0
                       try clear c67b1
                       try clear c68
                       try clear c68b0
                       try clear c69
                       try clear c69b0
                       try clear c70
                       try clear c70b0
                       try clear c70b1
                       try clear c71
                       try clear c71b0
                       try clear c71b1
                       try clear c72
                       try clear c75
                       try clear c78
                       try clear c81
                       try clear c81b0
                       try clear c81b1
                       try clear c82
                       try clear c82b0
                       try clear c83
                       try clear c83b0
                       try clear c84
                       try clear c87
                       try clear c89
                       try clear c90
                       try clear hcz12_0
                       try clear hcz12_1
                       try clear hcz13_0
                       try clear hcz13_1
                       try clear hcz20_0
                       try clear hcz20_1
                       try clear hcz23_0
                       try clear hcz23_1
                       try clear hcz23_2
                       try clear hcz23_3
                       try clear hcz24_0
                       try clear hcz24_1
                       try clear hcz27_0
                       try clear hcz27_1
                       try clear hcz30_0
                       try clear hcz30_1
                       try clear hcz30_2
                       try clear hcz30_3
                       try clear hcz31_0
                       try clear hcz31_1
                       try clear hcz35_0
                       try clear hcz35_1
                       try clear hcz35_2
                       try clear hcz35_3
                       try clear hcz38_0
                       try clear hcz38_1
                       try clear hcz38_2
                       try clear hcz38_3
                       try clear hcz44_0
                       try clear hcz44_1
                       try clear hcz44_2
                       try clear hcz44_3
                       try clear hcz45_0
                       try clear hcz45_1
                       try clear hcz48_0
                       try clear hcz48_1
                       try clear hcz48_2
                       try clear hcz48_3
                       try clear hcz49_0
                       try clear hcz49_1
                       try clear hcz54_0
                       try clear hcz54_1
                       try clear hcz59_0
                       try clear hcz59_1
                       try clear hcz59_2
                       try clear hcz59_3
                       try clear hcz5_0
                       try clear hcz5_1
                       try clear hcz60_0
                       try clear hcz60_1
                       try clear hcz63_0
                       try clear hcz63_1
                       try clear hcz63_2
                       try clear hcz63_3
                       try clear hcz73_0
                       try clear hcz73_1
                       try clear hcz73_2
                       try clear hcz73_3
                       try clear hcz74_0
                       try clear hcz74_1
                       try clear hcz76_0
                       try clear hcz76_1
                       try clear hcz76_2
                       try clear hcz76_3
                       try clear hcz77_0
                       try clear hcz77_1
                       try clear hcz79_0
                       try clear hcz79_1
                       try clear hcz79_2
                       try clear hcz79_3
                       try clear hcz7_0
                       try clear hcz7_1
                       try clear hcz80_0
                       try clear hcz80_1
                       try clear hcz85_0
                       try clear hcz85_1
                       try clear hcz85_2
                       try clear hcz85_3
                       try clear hcz86_0
                       try clear hcz86_1
                       try clear hcz88_0
                       try clear hcz88_1
                       try clear hcz88_2
                       try clear hcz88_3
                       try clear hcz91_0
                       try clear hcz91_1
                       try clear hcz91_2
                       try clear hcz91_3
                       try clear hcz9_0
                       try clear hcz9_1
                       try clear hfz12_0
                       try clear hfz12_1
                       try clear hfz13_0
                       try clear hfz13_1
                       try clear hfz20_0
                       try clear hfz20_1
                       try clear hfz23_0
                       try clear hfz23_1
                       try clear hfz23_2
                       try clear hfz23_3
                       try clear hfz24_0
                       try clear hfz24_1
                       try clear hfz27_0
                       try clear hfz27_1
                       try clear hfz30_0
                       try clear hfz30_1
                       try clear hfz30_2
                       try clear hfz30_3
                       try clear hfz31_0
                       try clear hfz31_1
                       try clear hfz35_0
                       try clear hfz35_1
                       try clear hfz35_2
                       try clear hfz35_3
                       try clear hfz38_0
                       try clear hfz38_1
                       try clear hfz38_2
                       try clear hfz38_3
                       try clear hfz44_0
                       try clear hfz44_1
                       try clear hfz44_2
                       try clear hfz44_3
                       try clear hfz45_0
                       try clear hfz45_1
                       try clear hfz48_0
                       try clear hfz48_1
                       try clear hfz48_2
                       try clear hfz48_3
                       try clear hfz49_0
                       try clear hfz49_1
                       try clear hfz54_0
                       try clear hfz54_1
                       try clear hfz59_0
                       try clear hfz59_1
                       try clear hfz59_2
                       try clear hfz59_3
                       try clear hfz5_0
                       try clear hfz5_1
                       try clear hfz60_0
                       try clear hfz60_1
                       try clear hfz63_0
                       try clear hfz63_1
                       try clear hfz63_2
                       try clear hfz63_3
                       try clear hfz73_0
                       try clear hfz73_1
                       try clear hfz73_2
                       try clear hfz73_3
                       try clear hfz74_0
                       try clear hfz74_1
                       try clear hfz76_0
                       try clear hfz76_1
                       try clear hfz76_2
                       try clear hfz76_3
                       try clear hfz77_0
                       try clear hfz77_1
                       try clear hfz79_0
                       try clear hfz79_1
                       try clear hfz79_2
                       try clear hfz79_3
                       try clear hfz7_0
                       try clear hfz7_1
                       try clear hfz80_0
                       try clear hfz80_1
                       try clear hfz85_0
                       try clear hfz85_1
                       try clear hfz85_2
                       try clear hfz85_3
                       try clear hfz86_0
                       try clear hfz86_1
                       try clear hfz88_0
                       try clear hfz88_1
                       try clear hfz88_2
                       try clear hfz88_3
                       try clear hfz91_0
                       try clear hfz91_1
                       try clear hfz91_2
                       try clear hfz91_3
                       try clear hfz9_0
                       try clear hfz9_1
                       try clear hx414_0
                       try clear hx414_1
                       try clear hx414_2
                       try clear hx414_3
                       try clear hx415_0
                       try clear hx415_1
                       try clear hx415_2
                       try clear hx415_3
                       try clear hx416_0
                       try clear hx416_1
                       try clear hx416_2
                       try clear hx416_3
                       try clear hx419_0
                       try clear hx419_1
                       try clear hx419_2
                       try clear hx419_3
                       try clear hx423_0
                       try clear hx423_1
                       try clear hx423_2
                       try clear hx423_3
                       try clear hx424_0
                       try clear hx424_1
                       try clear hx424_2
                       try clear hx424_3
                       try clear hx425_0
                       try clear hx425_1
                       try clear hx425_2
                       try clear hx425_3
                       try clear p2
                       try clear p4
                       try clear p41
                       try clear p414
                       try clear p415
                       try clear p416
                       try clear p419
                       try clear p42
                       try clear p423
                       try clear p424
                       try clear p425
                       try clear p6
                       try clear q4
                       try clear q41
                       try clear q414
                       try clear q415
                       try clear q416
                       try clear q419
                       try clear q42
                       try clear q423
                       try clear q424
                       try clear q425
                       obtain ⟨x7_6, rfl, HA, HK6, BK413, BK417, HB⟩ := hrel
                       cases gk with
                       | zero => exact absurd HA.out (by simp [R4_Check.l1])
                       | succ k6 =>
                        have H := HA.out
                        clear HA
                        simp only [R4_Check.l1] at H
                        by_cases c92 : x7_6 < x3_2
                        ·rw [if_pos c92] at H
                         have c92b0 : decide (x7_6 < x3_2) = true := decide_eq_true c92
                         clear c92
                         by_cases c93 : ((rd_T41 l0_1 x3_2).f0) = 2
                         ·rw [if_pos c93] at H
                          have c93b0 : (((rd_T41 l0_1 x3_2).f0) == 2) = true := beq_iff_eq.mpr c93
                          have c93b1 : (((rd_T41 l0_1 x3_2).f0) != 2) = false := bne_eq_false_iff_eq.mpr c93
                          clear c93
                          by_cases c94 : 0 ≤ x7_6
                          ·rw [if_pos c94] at H
                           have c94b0 : decide (0 ≤ x7_6) = true := decide_eq_true c94
                           clear c94
                           by_cases c95 : x7_6 < (l0_1.length : Int)
                           ·rw [if_pos c95] at H
                            have c95b0 : decide (x7_6 < (l0_1.length : Int)) = true := decide_eq_true c95
                            clear c95
                            by_cases c96 : ((rd_T41 l0_1 x7_6).f0) = 2
                            ·rw [if_pos c96] at H
                             have c96b0 : (((rd_T41 l0_1 x7_6).f0) == 2) = true := beq_iff_eq.mpr c96
                             have c96b1 : (((rd_T41 l0_1 x7_6).f0) != 2) = false := bne_eq_false_iff_eq.mpr c96
                             clear c96
                             by_cases c97 : ((rd_T41 l0_1 x7_6).f2) = ((rd_T41 l0_1 x3_2).f2)
                             ·rw [if_pos c97] at H
                              have c97b0 : (((rd_T41 l0_1 x7_6).f2) == ((rd_T41 l0_1 x3_2).f2)) = true := beq_iff_eq.mpr c97
                              have c97b1 : (((rd_T41 l0_1 x7_6).f2) != ((rd_T41 l0_1 x3_2).f2)) = false := bne_eq_false_iff_eq.mpr c97
                              clear c97
                              by_cases c98 : ((rd_T41 l0_1 x7_6).f1) = ((rd_T41 l0_1 x3_2).f1)
                              ·rw [if_pos c98] at H
                               have c98b0 : (((rd_T41 l0_1 x7_6).f1) == ((rd_T41 l0_1 x3_2).f1)) = true := beq_iff_eq.mpr c98
                               have c98b1 : (((rd_T41 l0_1 x7_6).f1) != ((rd_T41 l0_1 x3_2).f1)) = false := bne_eq_false_iff_eq.mpr c98
                               clear c98
                               obtain rfl := Option.some.inj H
                               have hnb99 := NB417_413.out
                               have hnc99 := NB413_417.out
                               have hcz100_0 : wr.cell? ⟨gb417, 0, none⟩ = some (.int .i64 ((rd_T41 l0_1 x3_2).f0)) := (blk_cell BK417.out 0).trans rfl
                               have hcz100_1 : wr.cell? ⟨gb417, 1, none⟩ = some (.int .i64 ((rd_T41 l0_1 x3_2).f1)) := (blk_cell BK417.out 1).trans rfl
                               have hcz100_2 : wr.cell? ⟨gb417, 2, none⟩ = some (.int .i64 ((rd_T41 l0_1 x3_2).f2)) := (blk_cell BK417.out 2).trans rfl
                               have hcz100_3 : wr.cell? ⟨gb417, 3, none⟩ = some (.string ((rd_T41 l0_1 x3_2).f3)) := (blk_cell BK417.out 3).trans rfl
                               have hfz100_0 := blk_frozen BK417.out 0
                               have hfz100_1 := blk_frozen BK417.out 1
                               have hfz100_2 := blk_frozen BK417.out 2
                               have hfz100_3 := blk_frozen BK417.out 3
                               have hcz101_0 : wr.cell? ⟨gb413, 0, none⟩ = some (.slice A0_0 l0_0.length c0_0) := (blk_cell BK413.out 0).trans rfl
                               have hcz101_1 : wr.cell? ⟨gb413, 1, none⟩ = some (.slice (some ad416) l0_1.length c0_1) := (blk_cell BK413.out 1).trans rfl
                               have hfz101_0 := blk_frozen BK413.out 0
                               have hfz101_1 := blk_frozen BK413.out 1
                               have p426 : 0 ≤ (x7_6 : Int) := of_decide_eq_true (zz1)
                               have q426 : x7_6 < (l0_1.length : Int) := of_decide_eq_true (zz1)
                               obtain ⟨ad426, e426, hx426_0, hx426_1, hx426_2, hx426_3⟩ := at_T41 HR0_1.out x7_6 p426 q426
                               obtain rfl : ad416 = ad426 := (by injection e426)
                               replace hx426_0 := (HB.out.cell (World.block_lt_of_cell? w _ hx426_0)).trans hx426_0
                               replace hx426_1 := (HB.out.cell (World.block_lt_of_cell? w _ hx426_1)).trans hx426_1
                               replace hx426_2 := (HB.out.cell (World.block_lt_of_cell? w _ hx426_2)).trans hx426_2
                               replace hx426_3 := (HB.out.cell (World.block_lt_of_cell? w _ hx426_3)).trans hx426_3
                               replace p426 := eq_true p426
                               replace q426 := eq_true q426
                               have p427 : 0 ≤ (x7_6 : Int) := of_decide_eq_true (zz1)
                               have q427 : x7_6 < (l0_1.length : Int) := of_decide_eq_true (zz1)
                               obtain ⟨ad427, e427, hx427_0, hx427_1, hx427_2, hx427_3⟩ := at_T41 HR0_1.out x7_6 p427 q427
                               obtain rfl : ad416 = ad427 := (by injection e427)
                               replace hx427_0 := (HB.out.cell (World.block_lt_of_cell? w _ hx427_0)).trans hx427_0
                               replace hx427_1 := (HB.out.cell (World.block_lt_of_cell? w _ hx427_1)).trans hx427_1
                               replace hx427_2 := (HB.out.cell (World.block_lt_of_cell? w _ hx427_2)).trans hx427_2
                               replace hx427_3 := (HB.out.cell (World.block_lt_of_cell? w _ hx427_3)).trans hx427_3
                               replace p427 := eq_true p427
                               replace q427 := eq_true q427
                               have p428 : 0 ≤ (x7_6 : Int) := of_decide_eq_true (zz1)
                               have q428 : x7_6 < (l0_1.length : Int) := of_decide_eq_true (zz1)
                               obtain ⟨ad428, e428, hx428_0, hx428_1, hx428_2, hx428_3⟩ := at_T41 HR0_1.out x7_6 p428 q428
                               obtain rfl : ad416 = ad428 := (by injection e428)
                               replace hx428_0 := (HB.out.cell (World.block_lt_of_cell? w _ hx428_0)).trans hx428_0
                               replace hx428_1 := (HB.out.cell (World.block_lt_of_cell? w _ hx428_1)).trans hx428_1
                               replace hx428_2 := (HB.out.cell (World.block_lt_of_cell? w _ hx428_2)).trans hx428_2
                               replace hx428_3 := (HB.out.cell (World.block_lt_of_cell? w _ hx428_3)).trans hx428_3
                               replace p428 := eq_true p428
                               replace q428 := eq_true q428
                               go_wp2
                               repeat (go_quiet (fail); try go_wp2)
                               go_ret
                               exact ⟨zz11, zz0⟩
                              ·rw [if_neg c98] at H
                               have c98b0 : (((rd_T41 l0_1 x7_6).f1) == ((rd_T41 l0_1 x3_2).f1)) = false := beq_eq_false_iff_ne.mpr c98
                               have c98b1 : (((rd_T41 l0_1 x7_6).f1) != ((rd_T41 l0_1 x3_2).f1)) = true := bne_iff_ne.mpr c98
                               have H' := Aside0.mk H
                               clear H
                               have hnb102 := NB417_413.out
                               have hnc102 := NB413_417.out
                               have hcz103_0 : wr.cell? ⟨gb417, 0, none⟩ = some (.int .i64 ((rd_T41 l0_1 x3_2).f0)) := (blk_cell BK417.out 0).trans rfl
                               have hcz103_1 : wr.cell? ⟨gb417, 1, none⟩ = some (.int .i64 ((rd_T41 l0_1 x3_2).f1)) := (blk_cell BK417.out 1).trans rfl
                               have hcz103_2 : wr.cell? ⟨gb417, 2, none⟩ = some (.int .i64 ((rd_T41 l0_1 x3_2).f2)) := (blk_cell BK417.out 2).trans rfl
                               have hcz103_3 : wr.cell? ⟨gb417, 3, none⟩ = some (.string ((rd_T41 l0_1 x3_2).f3)) := (blk_cell BK417.out 3).trans rfl
                               have hfz103_0 := blk_frozen BK417.out 0
                               have hfz103_1 := blk_frozen BK417.out 1
                               have hfz103_2 := blk_frozen BK417.out 2
                               have hfz103_3 := blk_frozen BK417.out 3
                               have hcz104_0 : wr.cell? ⟨gb413, 0, none⟩ = some (.slice A0_0 l0_0.length c0_0) := (blk_cell BK413.out 0).trans rfl
                               have hcz104_1 : wr.cell? ⟨gb413, 1, none⟩ = some (.slice (some ad416) l0_1.length c0_1) := (blk_cell BK413.out 1).trans rfl
                               have hfz104_0 := blk_frozen BK413.out 0
                               have hfz104_1 := blk_frozen BK413.out 1
                               have p426 : 0 ≤ (x7_6 : Int) := of_decide_eq_true (zz1)
                               have q426 : x7_6 < (l0_1.length : Int) := of_decide_eq_true (zz1)
                               obtain ⟨ad426, e426, hx426_0, hx426_1, hx426_2, hx426_3⟩ := at_T41 HR0_1.out x7_6 p426 q426
                               obtain rfl : ad416 = ad426 := (by injection e426)
                               replace hx426_0 := (HB.out.cell (World.block_lt_of_cell? w _ hx426_0)).trans hx426_0
                               replace hx426_1 := (HB.out.cell (World.block_lt_of_cell? w _ hx426_1)).trans hx426_1
                               replace hx426_2 := (HB.out.cell (World.block_lt_of_cell? w _ hx426_2)).trans hx426_2
                               replace hx426_3 := (HB.out.cell (World.block_lt_of_cell? w _ hx426_3)).trans hx426_3
                               replace p426 := eq_true p426
                               replace q426 := eq_true q426
                               have p427 : 0 ≤ (x7_6 : Int) := of_decide_eq_true (zz1)
                               have q427 : x7_6 < (l0_1.length : Int) := of_decide_eq_true (zz1)
                               obtain ⟨ad427, e427, hx427_0, hx427_1, hx427_2, hx427_3⟩ := at_T41 HR0_1.out x7_6 p427 q427
                               obtain rfl : ad416 = ad427 := (by injection e427)
                               replace hx427_0 := (HB.out.cell (World.block_lt_of_cell? w _ hx427_0)).trans hx427_0
                               replace hx427_1 := (HB.out.cell (World.block_lt_of_cell? w _ hx427_1)).trans hx427_1
                               replace hx427_2 := (HB.out.cell (World.block_lt_of_cell? w _ hx427_2)).trans hx427_2
                               replace hx427_3 := (HB.out.cell (World.block_lt_of_cell? w _ hx427_3)).trans hx427_3
                               replace p427 := eq_true p427
                               replace q427 := eq_true q427
                               have p428 : 0 ≤ (x7_6 : Int) := of_decide_eq_true (zz1)
                               have q428 : x7_6 < (l0_1.length : Int) := of_decide_eq_true (zz1)
                               obtain ⟨ad428, e428, hx428_0, hx428_1, hx428_2, hx428_3⟩ := at_T41 HR0_1.out x7_6 p428 q428
                               obtain rfl : ad416 = ad428 := (by injection e428)
                               replace hx428_0 := (HB.out.cell (World.block_lt_of_cell? w _ hx428_0)).trans hx428_0
                               replace hx428_1 := (HB.out.cell (World.block_lt_of_cell? w _ hx428_1)).trans hx428_1
                               replace hx428_2 := (HB.out.cell (World.block_lt_of_cell? w _ hx428_2)).trans hx428_2
                               replace hx428_3 := (HB.out.cell (World.block_lt_of_cell? w _ hx428_3)).trans hx428_3
                               replace p428 := eq_true p428
                               replace q428 := eq_true q428
                               go_wp2
                               repeat (go_quiet (fail); try go_wp2)
                               go_roundg k6
                               case measure => have := HJ1.out; have := HK2.out; have := HJ25.out; have := HJ51.out; have := HJ64.out; have := HK6.out; omega
                               case rel => exact ⟨(wrap64 (x7_6 + 1)), (zz7), H', ⟨zz30⟩, ⟨zz3⟩, ⟨zz6⟩, ⟨zz0⟩⟩
                             ·rw [if_neg c97] at H
                              have c97b0 : (((rd_T41 l0_1 x7_6).f2) == ((rd_T41 l0_1 x3_2).f2)) = false := beq_eq_false_iff_ne.mpr c97
                              have c97b1 : (((rd_T41 l0_1 x7_6).f2) != ((rd_T41 l0_1 x3_2).f2)) = true := bne_iff_ne.mpr c97
                              have H' := Aside0.mk H
                              clear H
                              have hnb105 := NB417_413.out
                              have hnc105 := NB413_417.out
                              have hcz106_0 : wr.cell? ⟨gb417, 0, none⟩ = some (.int .i64 ((rd_T41 l0_1 x3_2).f0)) := (blk_cell BK417.out 0).trans rfl
                              have hcz106_1 : wr.cell? ⟨gb417, 1, none⟩ = some (.int .i64 ((rd_T41 l0_1 x3_2).f1)) := (blk_cell BK417.out 1).trans rfl
                              have hcz106_2 : wr.cell? ⟨gb417, 2, none⟩ = some (.int .i64 ((rd_T41 l0_1 x3_2).f2)) := (blk_cell BK417.out 2).trans rfl
                              have hcz106_3 : wr.cell? ⟨gb417, 3, none⟩ = some (.string ((rd_T41 l0_1 x3_2).f3)) := (blk_cell BK417.out 3).trans rfl
                              have hfz106_0 := blk_frozen BK417.out 0
                              have hfz106_1 := blk_frozen BK417.out 1
                              have hfz106_2 := blk_frozen BK417.out 2
                              have hfz106_3 := blk_frozen BK417.out 3
                              have hcz107_0 : wr.cell? ⟨gb413, 0, none⟩ = some (.slice A0_0 l0_0.length c0_0) := (blk_cell BK413.out 0).trans rfl
                              have hcz107_1 : wr.cell? ⟨gb413, 1, none⟩ = some (.slice (some ad416) l0_1.length c0_1) := (blk_cell BK413.out 1).trans rfl
                              have hfz107_0 := blk_frozen BK413.out 0
                              have hfz107_1 := blk_frozen BK413.out 1
                              have p426 : 0 ≤ (x7_6 : Int) := of_decide_eq_true (zz1)
                              have q426 : x7_6 < (l0_1.length : Int) := of_decide_eq_true (zz1)
                              obtain ⟨ad426, e426, hx426_0, hx426_1, hx426_2, hx426_3⟩ := at_T41 HR0_1.out x7_6 p426 q426
                              obtain rfl : ad416 = ad426 := (by injection e426)
                              replace hx426_0 := (HB.out.cell (World.block_lt_of_cell? w _ hx426_0)).trans hx426_0
                              replace hx426_1 := (HB.out.cell (World.block_lt_of_cell? w _ hx426_1)).trans hx426_1
                              replace hx426_2 := (HB.out.cell (World.block_lt_of_cell? w _ hx426_2)).trans hx426_2
                              replace hx426_3 := (HB.out.cell (World.block_lt_of_cell? w _ hx426_3)).trans hx426_3
                              replace p426 := eq_true p426
                              replace q426 := eq_true q426
                              have p427 : 0 ≤ (x7_6 : Int) := of_decide_eq_true (zz1)
                              have q427 : x7_6 < (l0_1.length : Int) := of_decide_eq_true (zz1)
                              obtain ⟨ad427, e427, hx427_0, hx427_1, hx427_2, hx427_3⟩ := at_T41 HR0_1.out x7_6 p427 q427
                              obtain rfl : ad416 = ad427 := (by injection e427)
                              replace hx427_0 := (HB.out.cell (World.block_lt_of_cell? w _ hx427_0)).trans hx427_0
                              replace hx427_1 := (HB.out.cell (World.block_lt_of_cell? w _ hx427_1)).trans hx427_1
                              replace hx427_2 := (HB.out.cell (World.block_lt_of_cell? w _ hx427_2)).trans hx427_2
                              replace hx427_3 := (HB.out.cell (World.block_lt_of_cell? w _ hx427_3)).trans hx427_3
                              replace p427 := eq_true p427
                              replace q427 := eq_true q427
                              go_wp2
                              repeat (go_quiet (fail); try go_wp2)
                              go_roundg k6
                              case measure => have := HJ1.out; have := HK2.out; have := HJ25.out; have := HJ51.out; have := HJ64.out; have := HK6.out; omega
                              case rel => exact ⟨(wrap64 (x7_6 + 1)), (zz7), H', ⟨zz30⟩, ⟨zz3⟩, ⟨zz6⟩, ⟨zz0⟩⟩
                            ·rw [if_neg c96] at H
                             have c96b0 : (((rd_T41 l0_1 x7_6).f0) == 2) = false := beq_eq_false_iff_ne.mpr c96
                             have c96b1 : (((rd_T41 l0_1 x7_6).f0) != 2) = true := bne_iff_ne.mpr c96
                             have H' := Aside0.mk H
                             clear H
                             have hnb108 := NB417_413.out
                             have hnc108 := NB413_417.out
                             have hcz109_0 : wr.cell? ⟨gb417, 0, none⟩ = some (.int .i64 ((rd_T41 l0_1 x3_2).f0)) := (blk_cell BK417.out 0).trans rfl
                             have hcz109_1 : wr.cell? ⟨gb417, 1, none⟩ = some (.int .i64 ((rd_T41 l0_1 x3_2).f1)) := (blk_cell BK417.out 1).trans rfl
                             have hcz109_2 : wr.cell? ⟨gb417, 2, none⟩ = some (.int .i64 ((rd_T41 l0_1 x3_2).f2)) := (blk_cell BK417.out 2).trans rfl
                             have hcz109_3 : wr.cell? ⟨gb417, 3, none⟩ = some (.string ((rd_T41 l0_1 x3_2).f3)) := (blk_cell BK417.out 3).trans rfl
                             have hfz109_0 := blk_frozen BK417.out 0
                             have hfz109_1 := blk_frozen BK417.out 1
                             have hfz109_2 := blk_frozen BK417.out 2
                             have hfz109_3 := blk_frozen BK417.out 3
                             have hcz110_0 : wr.cell? ⟨gb413, 0, none⟩ = some (.slice A0_0 l0_0.length c0_0) := (blk_cell BK413.out 0).trans rfl
                             have hcz110_1 : wr.cell? ⟨gb413, 1, none⟩ = some (.slice (some ad416) l0_1.length c0_1) := (blk_cell BK413.out 1).trans rfl
                             have hfz110_0 := blk_frozen BK413.out 0
                             have hfz110_1 := blk_frozen BK413.out 1
                             have p426 : 0 ≤ (x7_6 : Int) := of_decide_eq_true (zz1)
                             have q426 : x7_6 < (l0_1.length : Int) := of_decide_eq_true (zz1)
                             obtain ⟨ad426, e426, hx426_0, hx426_1, hx426_2, hx426_3⟩ := at_T41 HR0_1.out x7_6 p426 q426
                             obtain rfl : ad416 = ad426 := (by injection e426)
                             replace hx426_0 := (HB.out.cell (World.block_lt_of_cell? w _ hx426_0)).trans hx426_0
                             replace hx426_1 := (HB.out.cell (World.block_lt_of_cell? w _ hx426_1)).trans hx426_1
                             replace hx426_2 := (HB.out.cell (World.block_lt_of_cell? w _ hx426_2)).trans hx426_2
                             replace hx426_3 := (HB.out.cell (World.block_lt_of_cell? w _ hx426_3)).trans hx426_3
                             replace p426 := eq_true p426
                             replace q426 := eq_true q426
                             go_wp2
                             repeat (go_quiet (fail); try go_wp2)
                             go_roundg k6
                             case measure => have := HJ1.out; have := HK2.out; have := HJ25.out; have := HJ51.out; have := HJ64.out; have := HK6.out; omega
                             case rel => exact ⟨(wrap64 (x7_6 + 1)), (zz7), H', ⟨zz30⟩, ⟨zz3⟩, ⟨zz6⟩, ⟨zz0⟩⟩
                           ·rw [if_neg c95] at H
                            exact absurd H (by simp)
                          ·rw [if_neg c94] at H
                           exact absurd H (by simp)
                         ·rw [if_neg c93] at H
                          have c93b0 : (((rd_T41 l0_1 x3_2).f0) == 2) = false := beq_eq_false_iff_ne.mpr c93
                          have c93b1 : (((rd_T41 l0_1 x3_2).f0) != 2) = true := bne_iff_ne.mpr c93
                          have H' := Aside0.mk H
                          clear H
                          have hnb111 := NB417_413.out
                          have hnc111 := NB413_417.out
                          have hcz112_0 : wr.cell? ⟨gb417, 0, none⟩ = some (.int .i64 ((rd_T41 l0_1 x3_2).f0)) := (blk_cell BK417.out 0).trans rfl
                          have hcz112_1 : wr.cell? ⟨gb417, 1, none⟩ = some (.int .i64 ((rd_T41 l0_1 x3_2).f1)) := (blk_cell BK417.out 1).trans rfl
                          have hcz112_2 : wr.cell? ⟨gb417, 2, none⟩ = some (.int .i64 ((rd_T41 l0_1 x3_2).f2)) := (blk_cell BK417.out 2).trans rfl
                          have hcz112_3 : wr.cell? ⟨gb417, 3, none⟩ = some (.string ((rd_T41 l0_1 x3_2).f3)) := (blk_cell BK417.out 3).trans rfl
                          have hfz112_0 := blk_frozen BK417.out 0
                          have hfz112_1 := blk_frozen BK417.out 1
                          have hfz112_2 := blk_frozen BK417.out 2
                          have hfz112_3 := blk_frozen BK417.out 3
                          go_wp2
                          repeat (go_quiet (fail); try go_wp2)
                          go_roundg k6
                          case measure => have := HJ1.out; have := HK2.out; have := HJ25.out; have := HJ51.out; have := HJ64.out; have := HK6.out; omega
                          case rel => exact ⟨(wrap64 (x7_6 + 1)), (zz7), H', ⟨zz30⟩, ⟨zz3⟩, ⟨zz6⟩, ⟨zz0⟩⟩
                        ·rw [if_neg c92] at H
                         have c92b0 : decide (x7_6 < x3_2) = false := decide_eq_false c92
                         clear c92
                         have H' := Aside0.mk H
                         clear H
                         go_wp2
                         repeat (go_quiet (fail); try go_wp2)
                         go_roundg k6
                         case measure => have := HJ1.out; have := HK2.out; have := HJ25.out; have := HJ51.out; have := HJ64.out; have := HK6.out; omega
                         case rel => exact ⟨(wrap64 (x3_2 + 1)), (zz7), H', ⟨zz30⟩, ⟨zz3⟩, ⟨zz0⟩⟩
        replace c18 := Bool.eq_false_iff.mpr c18
        subst c18
        rw [if_neg (show ¬ (false = true) by decide)] at H
        rotate_left
        ·rw [if_neg c16] at H
         exact absurd H (by simp)
        ·have H' := Aside0.mk H
         clear H
         have hcz119_0 : wr.cell? ⟨gb413, 0, none⟩ = some (.slice A0_0 l0_0.length c0_0) := (blk_cell BK413.out 0).trans rfl
         have hcz119_1 : wr.cell? ⟨gb413, 1, none⟩ = some (.slice A0_1 l0_1.length c0_1) := (blk_cell BK413.out 1).trans rfl
         have hfz119_0 := blk_frozen BK413.out 0
         have hfz119_1 := blk_frozen BK413.out 1
         go_wp2
         repeat (go_quiet (fail); try go_wp2)
         go_loopg [8] k2 (fun kq v8 w' => ∃ (x8_3 : Int), v8 = .int .i64 x8_3 ∧ Aside0 (R4_Check.l2 kq x8_3 l0_0 l0_1 = some r) ∧ Aside0 (kq ≤ k2) ∧ Aside0 (w'.heap[gb413]? = some (.cells #[(.slice A0_0 l0_0.length c0_0), (.slice A0_1 l0_1.length c0_1)] 27 (0, 0))) ∧ Aside0 (Below w.heap.size w w'))
         case atStart => exact ⟨(0), (zz7), H', ⟨Nat.le_refl _⟩, ⟨zz3⟩, ⟨zz4⟩⟩
         case round =>
          as_aux_lemma =>
           clear H'
           try clear c1
           try clear c2
           try clear p2
           try clear c3
           try clear c4
           try clear p4
           try clear q4
           try clear hx4
           try clear qi4
           try clear c5
           try clear c6
           try clear p6
           try clear c7
           try clear c8
           try clear c9
           try clear c10
           try clear c11
           try clear c11b0
           try clear c11b1
           try clear c14
           try clear c15
           try clear c15b0
           try clear c16
           try clear c16b0
           try clear c18
           try clear c19
           try clear c19b0
           try clear c19b1
           try clear c20
           try clear c22
           try clear c29
           try clear c33
           try clear c33b0
           try clear c34
           try clear c36
           try clear c36b0
           try clear c37
           try clear c39
           try clear c39b0
           try clear c40
           try clear c40b0
           try clear c41
           try clear c41b0
           try clear c41b1
           try clear p41
           try clear q41
           try clear hx41
           try clear qi41
           try clear p42
           try clear q42
           try clear hx42
           try clear c43
           try clear c47
           try clear c50
           try clear c53
           try clear c56
           try clear c56b0
           try clear c56b1
           try clear c58
           try clear c62
           try clear c64
           try clear p64
           try clear c66
           try clear c66b0
           try clear c67
           try clear c67b0
           try clear c67b1
           try clear c68
           try clear c68b0
           try clear c69
           try clear c69b0
           try clear c70
           try clear c70b0
           try clear c70b1
           try clear c71
           try clear c71b0
           try clear c71b1
           try clear c72
           try clear c75
           try clear c78
           try clear c81
           try clear c81b0
           try clear c81b1
           try clear c82
           try clear c82b0
           try clear c83
           try clear c83b0
           try clear c84
           try clear c87
           try clear c89
           try clear c90
           try clear c92
           try clear c92b0
           try clear c93
           try clear c93b0
           try clear c93b1
           try clear c94
           try clear c94b0
           try clear c95
           try clear c95b0
           try clear c96
           try clear c96b0
           try clear c96b1
           try clear c97
           try clear c97b0
           try clear c97b1
           try clear c98
           try clear c98b0
           try clear c98b1
           try clear c99
           try clear c102
           try clear c105
           try clear c108
           try clear c111
           try clear c115
           try clear hcz100_0
           try clear hcz100_1
           try clear hcz100_2
           try clear hcz100_3
           try clear hcz101_0
           try clear hcz101_1
           try clear hcz103_0
           try clear hcz103_1
           try clear hcz103_2
           try clear hcz103_3
           try clear hcz104_0
           try clear hcz104_1
           try clear hcz106_0
           try clear hcz106_1
           try clear hcz106_2
           try clear hcz106_3
           try clear hcz107_0
           try clear hcz107_1
           try clear hcz109_0
           try clear hcz109_1
           try clear hcz109_2
           try clear hcz109_3
           try clear hcz110_0
           try clear hcz110_1
           try clear hcz112_0
           try clear hcz112_1
           try clear hcz112_2
           try clear hcz112_3
           try clear hcz113_0
           try clear hcz113_1
           try clear hcz116_0
           try clear hcz116_1
           try clear hcz116_2
           try clear hcz116_3
           try clear hcz117_0
           try clear hcz117_1
           try clear hcz119_0
           try clear hcz119_1
           try clear hcz12_0
           try clear hcz12_1
           try clear hcz13_0
           try clear hcz13_1
           try clear hcz20_0
           try clear hcz20_1
           try clear hcz23_0
           try clear hcz23_1
           try clear hcz23_2
           try clear hcz23_3
           try clear hcz24_0
           try clear hcz24_1
           try clear hcz27_0
           try clear hcz27_1
           try clear hcz30_0
           try clear hcz30_1
           try clear hcz30_2
           try clear hcz30_3
           try clear hcz31_0
           try clear hcz31_1
           try clear hcz35_0
           try clear hcz35_1
           try clear hcz35_2
           try clear hcz35_3
           try clear hcz38_0
           try clear hcz38_1
           try clear hcz38_2
           try clear hcz38_3
           try clear hcz44_0
           try clear hcz44_1
           try clear hcz44_2
           try clear hcz44_3
           try clear hcz45_0
           try clear hcz45_1
           try clear hcz48_0
           try clear hcz48_1
           try clear hcz48_2
           try clear hcz48_3
           try clear hcz49_0
           try clear hcz49_1
           try clear hcz54_0
           try clear hcz54_1
           try clear hcz59_0
           try clear hcz59_1
           try clear hcz59_2
           try clear hcz59_3
           try clear hcz5_0
           try clear hcz5_1
           try clear hcz60_0
           try clear hcz60_1
           try clear hcz63_0
           try clear hcz63_1
           try clear hcz63_2
           try clear hcz63_3
           try clear hcz73_0
           try clear hcz73_1
           try clear hcz73_2
           try clear hcz73_3
           try clear hcz74_0
           try clear hcz74_1
           try clear hcz76_0
           try clear hcz76_1
           try clear hcz76_2
           try clear hcz76_3
           try clear hcz77_0
           try clear hcz77_1
           try clear hcz79_0
           try clear hcz79_1
           try clear hcz79_2
           try clear hcz79_3
           try clear hcz7_0
           try clear hcz7_1
           try clear hcz80_0
           try clear hcz80_1
           try clear hcz85_0
           try clear hcz85_1
           try clear hcz85_2
           try clear hcz85_3
           try clear hcz86_0
           try clear hcz86_1
           try clear hcz88_0
           try clear hcz88_1
           try clear hcz88_2
           try clear hcz88_3
           try clear hcz91_0
           try clear hcz91_1
           try clear hcz91_2
           try clear hcz91_3
           try clear hcz9_0
           try clear hcz9_1
           try clear hfz100_0
           try clear hfz100_1
           try clear hfz100_2
           try clear hfz100_3
           try clear hfz101_0
           try clear hfz101_1
           try clear hfz103_0
           try clear hfz103_1
           try clear hfz103_2
           try clear hfz103_3
           try clear hfz104_0
           try clear hfz104_1
           try clear hfz106_0
           try clear hfz106_1
           try clear hfz106_2
           try clear hfz106_3
           try clear hfz107_0
           try clear hfz107_1
           try clear hfz109_0
           try clear hfz109_1
           try clear hfz109_2
           try clear hfz109_3
           try clear hfz110_0
           try clear hfz110_1
           try clear hfz112_0
           try clear hfz112_1
           try clear hfz112_2
           try clear hfz112_3
           try clear hfz113_0
           try clear hfz113_1
           try clear hfz116_0
           try clear hfz116_1
           try clear hfz116_2
           try clear hfz116_3
           try clear hfz117_0
           try clear hfz117_1
           try clear hfz119_0
           try clear hfz119_1
           try clear hfz12_0
           try clear hfz12_1
           try clear hfz13_0
           try clear hfz13_1
           try clear hfz20_0
           try clear hfz20_1
           try clear hfz23_0
           try clear hfz23_1
           try clear hfz23_2
           try clear hfz23_3
           try clear hfz24_0
           try clear hfz24_1
           try clear hfz27_0
           try clear hfz27_1
           try clear hfz30_0
           try clear hfz30_1
           try clear hfz30_2
           try clear hfz30_3
           try clear hfz31_0
           try clear hfz31_1
           try clear hfz35_0
           try clear hfz35_1
           try clear hfz35_2
           try clear hfz35_3
           try clear hfz38_0
           try clear hfz38_1
           try clear hfz38_2
           try clear hfz38_3
           try clear hfz44_0
           try clear hfz44_1
           try clear hfz44_2
           try clear hfz44_3
           try clear hfz45_0
           try clear hfz45_1
           try clear hfz48_0
           try clear hfz48_1
           try clear hfz48_2
           try clear hfz48_3
           try clear hfz49_0
           try clear hfz49_1
           try clear hfz54_0
           try clear hfz54_1
           try clear hfz59_0
           try clear hfz59_1
           try clear hfz59_2
           try clear hfz59_3
           try clear hfz5_0
           try clear hfz5_1
           try clear hfz60_0
           try clear hfz60_1
           try clear hfz63_0
           try clear hfz63_1
           try clear hfz63_2
           try clear hfz63_3
           try clear hfz73_0
           try clear hfz73_1
           try clear hfz73_2
           try clear hfz73_3
           try clear hfz74_0
           try clear hfz74_1
           try clear hfz76_0
           try clear hfz76_1
           try clear hfz76_2
           try clear hfz76_3
           try clear hfz77_0
           try clear hfz77_1
           try clear hfz79_0
           try clear hfz79_1
           try clear hfz79_2
           try clear hfz79_3
           try clear hfz7_0
           try clear hfz7_1
           try clear hfz80_0
           try clear hfz80_1
           try clear hfz85_0
           try clear hfz85_1
           try clear hfz85_2
           try clear hfz85_3
           try clear hfz86_0
           try clear hfz86_1
           try clear hfz88_0
           try clear hfz88_1
           try clear hfz88_2
           try clear hfz88_3
           try clear hfz91_0
           try clear hfz91_1
           try clear hfz91_2
           try clear hfz91_3
           try clear hfz9_0
           try clear hfz9_1
           try clear hx414_0
           try clear hx414_1
           try clear hx414_2
           try clear hx414_3
           try clear hx415_0
           try clear hx415_1
           try clear hx415_2
           try clear hx415_3
           try clear hx416_0
           try clear hx416_1
           try clear hx416_2
           try clear hx416_3
           try clear hx419_0
           try clear hx419_1
           try clear hx419_2
           try clear hx419_3
           try clear hx423_0
           try clear hx423_1
           try clear hx423_2
           try clear hx423_3
           try clear hx424_0
           try clear hx424_1
           try clear hx424_2
           try clear hx424_3
           try clear hx425_0
           try clear hx425_1
           try clear hx425_2
           try clear hx425_3
           try clear hx426_0
           try clear hx426_1
           try clear hx426_2
           try clear hx426_3
           try clear hx427_0
           try clear hx427_1
           try clear hx427_2
           try clear hx427_3
           try clear hx428_0
           try clear hx428_1
           try clear hx428_2
           try clear hx428_3
           try clear p2
           try clear p4
           try clear p41
           try clear p414
           try clear p415
           try clear p416
           try clear p419
           try clear p42
           try clear p423
           try clear p424
           try clear p425
           try clear p426
           try clear p427
           try clear p428
           try clear p6
           try clear p64
           try clear q4
           try clear q41
           try clear q414
           try clear q415
           try clear q416
           try clear q419
           try clear q42
           try clear q423
           try clear q424
           try clear q425
           try clear q426
           try clear q427
           try clear q428
           obtain ⟨x8_3, rfl, HA, HK3, BK413, HB⟩ := hrel
           cases gk with
           | zero => exact absurd HA.out (by simp [R4_Check.l2])
           | succ k3 =>
            have H := HA.out
            clear HA
            simp only [R4_Check.l2] at H
            by_cases c120 : x8_3 < (l0_0.length : Int)
            ·rw [if_pos c120] at H
             have c120b0 : decide (x8_3 < (l0_0.length : Int)) = true := decide_eq_true c120
             clear c120
             have H' := Aside0.mk H
             clear H
             have hcz121_0 : wr.cell? ⟨gb413, 0, none⟩ = some (.slice A0_0 l0_0.length c0_0) := (blk_cell BK413.out 0).trans rfl
             have hcz121_1 : wr.cell? ⟨gb413, 1, none⟩ = some (.slice A0_1 l0_1.length c0_1) := (blk_cell BK413.out 1).trans rfl
             have hfz121_0 := blk_frozen BK413.out 0
             have hfz121_1 := blk_frozen BK413.out 1
             go_wp2
             repeat (go_quiet (fail); try go_wp2)
             go_loopg [9, 10] k3 (fun kq v9 v10 w' => ∃ (x9_4 : Bool) (x10_4 : Int), v9 = .bool x9_4 ∧ v10 = .int .i64 x10_4 ∧ Aside0 (R4_Check.l3 kq x8_3 x9_4 x10_4 l0_0 l0_1 = some r) ∧ Aside0 (kq ≤ k3) ∧ Aside0 (w'.heap[gb413]? = some (.cells #[(.slice A0_0 l0_0.length c0_0), (.slice A0_1 l0_1.length c0_1)] 27 (0, 0))) ∧ Aside0 (Below w.heap.size w w'))
             case atStart => exact ⟨(false), (0), (zz7), (zz7), H', ⟨Nat.le_refl _⟩, ⟨zz3⟩, ⟨zz4⟩⟩
             case round =>
              as_aux_lemma =>
               clear H'
               try clear c1
               try clear c2
               try clear p2
               try clear c3
               try clear c4
               try clear p4
               try clear q4
               try clear hx4
               try clear qi4
               try clear c5
               try clear c6
               try clear p6
               try clear c7
               try clear c8
               try clear c9
               try clear c10
               try clear c11
               try clear c11b0
               try clear c11b1
               try clear c12
               try clear c14
               try clear c15
               try clear c15b0
               try clear c16
               try clear c16b0
               try clear c18
               try clear c19
               try clear c19b0
               try clear c19b1
               try clear c20
               try clear c22
               try clear c29
               try clear c33
               try clear c33b0
               try clear c34
               try clear c36
               try clear c36b0
               try clear c37
               try clear c39
               try clear c39b0
               try clear c40
               try clear c40b0
               try clear c41
               try clear c41b0
               try clear c41b1
               try clear p41
               try clear q41
               try clear hx41
               try clear qi41
               try clear p42
               try clear q42
               try clear hx42
               try clear c43
               try clear c47
               try clear c50
               try clear c53
               try clear c56
               try clear c56b0
               try clear c56b1
               try clear c58
               try clear c62
               try clear c64
               try clear p64
               try clear c66
               try clear c66b0
               try clear c67
               try clear c67b0
               try clear c67b1
               try clear c68
               try clear c68b0
               try clear c69
               try clear c69b0
               try clear c70
               try clear c70b0
               try clear c70b1
               try clear c71
               try clear c71b0
               try clear c71b1
               try clear c72
               try clear c75
               try clear c78
               try clear c81
               try clear c81b0
               try clear c81b1
               try clear c82
               try clear c82b0
               try clear c83
               try clear c83b0
               try clear c84
               try clear c87
               try clear c89
               try clear c90
               try clear c92
               try clear c92b0
               try clear c93
               try clear c93b0
               try clear c93b1
               try clear c94
               try clear c94b0
               try clear c95
               try clear c95b0
               try clear c96
               try clear c96b0
               try clear c96b1
               try clear c97
               try clear c97b0
               try clear c97b1
               try clear c98
               try clear c98b0
               try clear c98b1
               try clear c99
               try clear c102
               try clear c105
               try clear c108
               try clear c111
               try clear c115
               try clear c120
               try clear c120b0
               try clear hcz100_0
               try clear hcz100_1
               try clear hcz100_2
               try clear hcz100_3
               try clear hcz101_0
               try clear hcz101_1
               try clear hcz103_0
               try clear hcz103_1
               try clear hcz103_2
               try clear hcz103_3
               try clear hcz104_0
               try clear hcz104_1
               try clear hcz106_0
               try clear hcz106_1
               try clear hcz106_2
               try clear hcz106_3
               try clear hcz107_0
               try clear hcz107_1
               try clear hcz109_0
               try clear hcz109_1
               try clear hcz109_2
               try clear hcz109_3
               try clear hcz110_0
               try clear hcz110_1
               try clear hcz112_0
               try clear hcz112_1
               try clear hcz112_2
               try clear hcz112_3
               try clear hcz113_0
               try clear hcz113_1
               try clear hcz116_0
               try clear hcz116_1
               try clear hcz116_2
               try clear hcz116_3
               try clear hcz117_0
               try clear hcz117_1
               try clear hcz119_0
               try clear hcz119_1
               try clear hcz121_0
               try clear hcz121_1
               try clear hcz12_0
               try clear hcz12_1
               try clear hcz13_0
               try clear hcz13_1
               try clear hcz20_0
               try clear hcz20_1
               try clear hcz23_0
               try clear hcz23_1
               try clear hcz23_2
               try clear hcz23_3
               try clear hcz24_0
               try clear hcz24_1
               try clear hcz27_0
               try clear hcz27_1
               try clear hcz30_0
               try clear hcz30_1
               try clear hcz30_2
               try clear hcz30_3
               try clear hcz31_0
               try clear hcz31_1
               try clear hcz35_0
               try clear hcz35_1
               try clear hcz35_2
               try clear hcz35_3
               try clear hcz38_0
               try clear hcz38_1
               try clear hcz38_2
               try clear hcz38_3
               try clear hcz44_0
               try clear hcz44_1
               try clear hcz44_2
               try clear hcz44_3
               try clear hcz45_0
               try clear hcz45_1
               try clear hcz48_0
               try clear hcz48_1
               try clear hcz48_2
               try clear hcz48_3
               try clear hcz49_0
               try clear hcz49_1
               try clear hcz54_0
               try clear hcz54_1
               try clear hcz59_0
               try clear hcz59_1
               try clear hcz59_2
               try clear hcz59_3
               try clear hcz5_0
               try clear hcz5_1
               try clear hcz60_0
               try clear hcz60_1
               try clear hcz63_0
               try clear hcz63_1
               try clear hcz63_2
               try clear hcz63_3
               try clear hcz73_0
               try clear hcz73_1
               try clear hcz73_2
               try clear hcz73_3
               try clear hcz74_0
               try clear hcz74_1
               try clear hcz76_0
               try clear hcz76_1
               try clear hcz76_2
               try clear hcz76_3
               try clear hcz77_0
               try clear hcz77_1
               try clear hcz79_0
               try clear hcz79_1
               try clear hcz79_2
               try clear hcz79_3
               try clear hcz7_0
               try clear hcz7_1
               try clear hcz80_0
               try clear hcz80_1
               try clear hcz85_0
               try clear hcz85_1
               try clear hcz85_2
               try clear hcz85_3
               try clear hcz86_0
               try clear hcz86_1
               try clear hcz88_0
               try clear hcz88_1
               try clear hcz88_2
               try clear hcz88_3
               try clear hcz91_0
               try clear hcz91_1
               try clear hcz91_2
               try clear hcz91_3
               try clear hcz9_0
               try clear hcz9_1
               try clear hfz100_0
               try clear hfz100_1
               try clear hfz100_2
               try clear hfz100_3
               try clear hfz101_0
               try clear hfz101_1
               try clear hfz103_0
               try clear hfz103_1
               try clear hfz103_2
               try clear hfz103_3
               try clear hfz104_0
               try clear hfz104_1
               try clear hfz106_0
               try clear hfz106_1
               try clear hfz106_2
               try clear hfz106_3
               try clear hfz107_0
               try clear hfz107_1
               try clear hfz109_0
               try clear hfz109_1
               try clear hfz109_2
               try clear hfz109_3
               try clear hfz110_0
               try clear hfz110_1
               try clear hfz112_0
               try clear hfz112_1
               try clear hfz112_2
               try clear hfz112_3
               try clear hfz113_0
               try clear hfz113_1
               try clear hfz116_0
               try clear hfz116_1
               try clear hfz116_2
               try clear hfz116_3
               try clear hfz117_0
               try clear hfz117_1
               try clear hfz119_0
               try clear hfz119_1
               try clear hfz121_0
               try clear hfz121_1
               try clear hfz12_0
               try clear hfz12_1
               try clear hfz13_0
               try clear hfz13_1
               try clear hfz20_0
               try clear hfz20_1
               try clear hfz23_0
               try clear hfz23_1
               try clear hfz23_2
               try clear hfz23_3
               try clear hfz24_0
               try clear hfz24_1
               try clear hfz27_0
               try clear hfz27_1
               try clear hfz30_0
               try clear hfz30_1
               try clear hfz30_2
               try clear hfz30_3
               try clear hfz31_0
               try clear hfz31_1
               try clear hfz35_0
               try clear hfz35_1
               try clear hfz35_2
               try clear hfz35_3
               try clear hfz38_0
               try clear hfz38_1
               try clear hfz38_2
               try clear hfz38_3
               try clear hfz44_0
               try clear hfz44_1
               try clear hfz44_2
               try clear hfz44_3
               try clear hfz45_0
               try clear hfz45_1
               try clear hfz48_0
               try clear hfz48_1
               try clear hfz48_2
               try clear hfz48_3
               try clear hfz49_0
               try clear hfz49_1
               try clear hfz54_0
               try clear hfz54_1
               try clear hfz59_0
               try clear hfz59_1
               try clear hfz59_2
               try clear hfz59_3
               try clear hfz5_0
               try clear hfz5_1
               try clear hfz60_0
               try clear hfz60_1
               try clear hfz63_0
               try clear hfz63_1
               try clear hfz63_2
               try clear hfz63_3
               try clear hfz73_0
               try clear hfz73_1
               try clear hfz73_2
               try clear hfz73_3
               try clear hfz74_0
               try clear hfz74_1
               try clear hfz76_0
               try clear hfz76_1
               try clear hfz76_2
               try clear hfz76_3
               try clear hfz77_0
               try clear hfz77_1
               try clear hfz79_0
               try clear hfz79_1
               try clear hfz79_2
               try clear hfz79_3
               try clear hfz7_0
               try clear hfz7_1
               try clear hfz80_0
               try clear hfz80_1
               try clear hfz85_0
               try clear hfz85_1
               try clear hfz85_2
               try clear hfz85_3
               try clear hfz86_0
               try clear hfz86_1
               try clear hfz88_0
               try clear hfz88_1
               try clear hfz88_2
               try clear hfz88_3
               try clear hfz91_0
               try clear hfz91_1
               try clear hfz91_2
               try clear hfz91_3
               try clear hfz9_0
               try clear hfz9_1
               try clear hx414_0
               try clear hx414_1
               try clear hx414_2
               try clear hx414_3
               try clear hx415_0
               try clear hx415_1
               try clear hx415_2
               try clear hx415_3
               try clear hx416_0
               try clear hx416_1
               try clear hx416_2
               try clear hx416_3
               try clear hx419_0
               try clear hx419_1
               try clear hx419_2
               try clear hx419_3
               try clear hx423_0
               try clear hx423_1
               try clear hx423_2
               try clear hx423_3
               try clear hx424_0
               try clear hx424_1
               try clear hx424_2
               try clear hx424_3
               try clear hx425_0
               try clear hx425_1
               try clear hx425_2
               try clear hx425_3
               try clear hx426_0
               try clear hx426_1
               try clear hx426_2
               try clear hx426_3
               try clear hx427_0
               try clear hx427_1
               try clear hx427_2
               try clear hx427_3
               try clear hx428_0
               try clear hx428_1
               try clear hx428_2
               try clear hx428_3
               try clear p2
               try clear p4
               try clear p41
               try clear p414
               try clear p415
               try clear p416
               try clear p419
               try clear p42
               try clear p423
               try clear p424
               try clear p425
               try clear p426
               try clear p427
               try clear p428
               try clear p6
               try clear p64
               try clear q4
               try clear q41
               try clear q414
               try clear q415
               try clear q416
               try clear q419
               try clear q42
               try clear q423
               try clear q424
               try clear q425
               try clear q426
               try clear q427
               try clear q428
               obtain ⟨x9_4, x10_4, rfl, rfl, HA, HK4, BK413, HB⟩ := hrel
               cases gk with
               | zero => exact absurd HA.out (by simp [R4_Check.l3])
               | succ k4 =>
                have H := HA.out
                clear HA
                simp only [R4_Check.l3] at H
                by_cases c122 : x10_4 < (l0_1.length : Int)
                ·rw [if_pos c122] at H
                 have c122b0 : decide (x10_4 < (l0_1.length : Int)) = true := decide_eq_true c122
                 clear c122
                 by_cases c123 : x9_4 = true
                 ·subst c123
                  rw [if_pos rfl] at H
                  have H' := Aside0.mk H
                  clear H
                  have hcz124_0 : wr.cell? ⟨gb413, 0, none⟩ = some (.slice A0_0 l0_0.length c0_0) := (blk_cell BK413.out 0).trans rfl
                  have hcz124_1 : wr.cell? ⟨gb413, 1, none⟩ = some (.slice A0_1 l0_1.length c0_1) := (blk_cell BK413.out 1).trans rfl
                  have hfz124_0 := blk_frozen BK413.out 0
                  have hfz124_1 := blk_frozen BK413.out 1
                  go_wp2
                  repeat (go_quiet (fail); try go_wp2)
                  go_roundg k4
                  case measure => have := HJ1.out; have := HK2.out; have := HK3.out; have := HK4.out; omega
                  case rel => exact ⟨(true), (wrap64 (x10_4 + 1)), (zz7), (zz7), H', ⟨by have := HJ1.out; have := HK2.out; have := HK3.out; have := HK4.out; omega⟩, ⟨zz3⟩, ⟨zz4⟩⟩
                 ·replace c123 := Bool.eq_false_iff.mpr c123
                  subst c123
                  rw [if_neg (show ¬ (false = true) by decide)] at H
                  by_cases c125 : 0 ≤ x10_4
                  ·rw [if_pos c125] at H
                   have c125b0 : decide (0 ≤ x10_4) = true := decide_eq_true c125
                   clear c125
                   have H' := Aside0.mk H
                   clear H
                   have hcz126_0 : wr.cell? ⟨gb413, 0, none⟩ = some (.slice A0_0 l0_0.length c0_0) := (blk_cell BK413.out 0).trans rfl
                   have hcz126_1 : wr.cell? ⟨gb413, 1, none⟩ = some (.slice A0_1 l0_1.length c0_1) := (blk_cell BK413.out 1).trans rfl
                   have hfz126_0 := blk_frozen BK413.out 0
                   have hfz126_1 := blk_frozen BK413.out 1
                   have p429 : 0 ≤ (x10_4 : Int) := of_decide_eq_true (zz1)
                   have q429 : x10_4 < (l0_1.length : Int) := of_decide_eq_true (zz1)
                   obtain ⟨ad429, e429, hx429_0, hx429_1, hx429_2, hx429_3⟩ := at_T41 HR0_1.out x10_4 p429 q429
                   cases e429
                   replace hx429_0 := (HB.out.cell (World.block_lt_of_cell? w _ hx429_0)).trans hx429_0
                   replace hx429_1 := (HB.out.cell (World.block_lt_of_cell? w _ hx429_1)).trans hx429_1
                   replace hx429_2 := (HB.out.cell (World.block_lt_of_cell? w _ hx429_2)).trans hx429_2
                   replace hx429_3 := (HB.out.cell (World.block_lt_of_cell? w _ hx429_3)).trans hx429_3
                   replace p429 := eq_true p429
                   replace q429 := eq_true q429
                   go_wp2
                   repeat (go_quiet (fail); try go_wp2)
                   go_roundg k4
                   case measure => have := HJ1.out; have := HK2.out; have := HK3.out; have := HK4.out; omega
                   case rel => exact ⟨((((rd_T41 l0_1 x10_4).f1) == x8_3)), (wrap64 (x10_4 + 1)), (zz7), (zz7), H', ⟨by have := HJ1.out; have := HK2.out; have := HK3.out; have := HK4.out; omega⟩, ⟨zz3⟩, ⟨zz4⟩⟩
                  ·rw [if_neg c125] at H
                   exact absurd H (by simp)
                ·rw [if_neg c122] at H
                 have c122b0 : decide (x10_4 < (l0_1.length : Int)) = false := decide_eq_false c122
                 clear c122
                 by_cases c127 : 0 ≤ x8_3
                 ·rw [if_pos c127] at H
                  have c127b0 : decide (0 ≤ x8_3) = true := decide_eq_true c127
                  clear c127
                  by_cases c128 : x8_3 < (l0_0.length : Int)
                  ·rw [if_pos c128] at H
                   have c128b0 : decide (x8_3 < (l0_0.length : Int)) = true := decide_eq_true c128
                   clear c128
                   by_cases c129 : ((rdOf ByteArray.empty l0_0 x8_3).size : Int) > 0
                   ·rw [if_pos c129] at H
                    have c129b0 : decide (0 < ((rdOf ByteArray.empty l0_0 x8_3).size : Int)) = true := decide_eq_true c129
                    have c129b1 : decide (0 < (rdOf ByteArray.empty l0_0 x8_3).size) = true := decide_eq_true (by omega)
                    clear c129
                    replace H := Option.bind_eq_some_iff.mp H
                    obtain ⟨t432, A1300, H⟩ := H
                    try dsimp only at H
                    have A130 := Aside0.mk A1300
                    clear A1300
                    by_cases c131 : x9_4 = true
                    ·subst c131
                     rw [if_pos rfl] at H
                     by_cases c132 : (t432 = ((rdOf ByteArray.empty l0_0 x8_3).size : Int))
                     ·rw [if_pos c132] at H
                      have c132b0 : (t432 == ((rdOf ByteArray.empty l0_0 x8_3).size : Int)) = true := beq_iff_eq.mpr c132
                      have c132b1 : (t432 != ((rdOf ByteArray.empty l0_0 x8_3).size : Int)) = false := bne_eq_false_iff_eq.mpr c132
                      clear c132
                      by_cases c133 : x8_3 > 0
                      ·rw [if_pos c133] at H
                       have c133b0 : decide (0 < x8_3) = true := decide_eq_true c133
                       clear c133
                       obtain ⟨ji134, hji134⟩ : ∃ j_ : Int, (wrap64 (x8_3 - 1)) = j_ := ⟨_, rfl⟩
                       replace H : (if 0 ≤ (ji134) then (if (ji134) < (l0_0.length : Int) then (if ((Op.bytesLess ((rdOf ByteArray.empty l0_0 (ji134)).toList) ((rdOf ByteArray.empty l0_0 x8_3).toList)) = true) then (R4_Check.l2 k4 (wrap64 (x8_3 + 1)) l0_0 l0_1) else (some 1)) else (none)) else (none)) = some r := by first | (rw [hji134] at H; exact H) | (simp only [hji134] at H ⊢; exact H)
                       (try rw [hji134] at A130)
                       have hji134w : (IntKind.i64.wrap (x8_3 - 1)) = ji134 := (i64_w _).trans hji134
                       by_cases c135 : 0 ≤ (ji134)
                       ·rw [if_pos c135] at H
                        have c135b0 : decide (0 ≤ (ji134)) = true := decide_eq_true c135
                        clear c135
                        by_cases c136 : (ji134) < (l0_0.length : Int)
                        ·rw [if_pos c136] at H
                         have c136b0 : decide ((ji134) < (l0_0.length : Int)) = true := decide_eq_true c136
                         clear c136
                         by_cases c137 : ((Op.bytesLess ((rdOf ByteArray.empty l0_0 (ji134)).toList) ((rdOf ByteArray.empty l0_0 x8_3).toList)) = true)
                         ·rw [if_pos c137] at H
                          have c137b0 : (Op.bytesLess ((rdOf ByteArray.empty l0_0 (ji134)).toList) ((rdOf ByteArray.empty l0_0 x8_3).toList)) = true := c137
                          clear c137
                          have H' := Aside0.mk H
                          clear H
                          have hcz138_0 : wr.cell? ⟨gb413, 0, none⟩ = some (.slice A0_0 l0_0.length c0_0) := (blk_cell BK413.out 0).trans rfl
                          have hcz138_1 : wr.cell? ⟨gb413, 1, none⟩ = some (.slice A0_1 l0_1.length c0_1) := (blk_cell BK413.out 1).trans rfl
                          have hfz138_0 := blk_frozen BK413.out 0
                          have hfz138_1 := blk_frozen BK413.out 1
                          have p430 : 0 ≤ (x8_3 : Int) := of_decide_eq_true (zz1)
                          have q430 : x8_3 < (l0_0.length : Int) := of_decide_eq_true (zz1)
                          obtain ⟨ad430, e430, hx430_0⟩ := Kd.at_string HR0_0.out x8_3 p430 q430
                          cases e430
                          replace hx430_0 := (HB.out.cell (World.block_lt_of_cell? w _ hx430_0)).trans hx430_0
                          replace p430 := eq_true p430
                          replace q430 := eq_true q430
                          have p431 : 0 ≤ (x8_3 : Int) := of_decide_eq_true (zz1)
                          have q431 : x8_3 < (l0_0.length : Int) := of_decide_eq_true (zz1)
                          obtain ⟨ad431, e431, hx431_0⟩ := Kd.at_string HR0_0.out x8_3 p431 q431
                          obtain rfl : ad430 = ad431 := (by injection e431)
                          replace hx431_0 := (HB.out.cell (World.block_lt_of_cell? w _ hx431_0)).trans hx431_0
                          replace p431 := eq_true p431
                          replace q431 := eq_true q431
                          go_wp2_with (first | (go_at_call 53; (with_reducible refine (R1_NameEnd.calls k4 (rdOf ByteArray.empty l0_0 x8_3) 0 t432 _ A130.out).mono ?_); rintro e w' ⟨rfl, ⟨nd, rfl⟩⟩; (try first | exact ⟨rfl, _, World.drewN_drewN _ _ _⟩ | exact ⟨rfl, _, Eq.trans (World.drewN_drewN _ _ _) (congrArg (World.drewN _) (Nat.add_assoc _ _ _))⟩); have p433 : 0 ≤ (x8_3 : Int) := of_decide_eq_true (zz1); have q433 : x8_3 < (l0_0.length : Int) := of_decide_eq_true (zz1); obtain ⟨ad433, e433, hx433_0⟩ := Kd.at_string HR0_0.out x8_3 p433 q433; obtain rfl : ad430 = ad433 := (by injection e433); replace hx433_0 := (HB.out.cell (World.block_lt_of_cell? w _ hx433_0)).trans hx433_0; replace p433 := eq_true p433; replace q433 := eq_true q433; have p434 : 0 ≤ ((ji134) : Int) := of_decide_eq_true (zz1); have q434 : (ji134) < (l0_0.length : Int) := of_decide_eq_true (zz1); obtain ⟨ad434, e434, hx434_0⟩ := Kd.at_string HR0_0.out (ji134) p434 q434; obtain rfl : ad430 = ad434 := (by injection e434); replace hx434_0 := (HB.out.cell (World.block_lt_of_cell? w _ hx434_0)).trans hx434_0; replace p434 := eq_true p434; replace q434 := eq_true q434; have p435 : 0 ≤ (x8_3 : Int) := of_decide_eq_true (zz1); have q435 : x8_3 < (l0_0.length : Int) := of_decide_eq_true (zz1); obtain ⟨ad435, e435, hx435_0⟩ := Kd.at_string HR0_0.out x8_3 p435 q435; obtain rfl : ad430 = ad435 := (by injection e435); replace hx435_0 := (HB.out.cell (World.block_lt_of_cell? w _ hx435_0)).trans hx435_0; replace p435 := eq_true p435; replace q435 := eq_true q435))
                          repeat (go_quiet (first | (go_at_call 53; (with_reducible refine (R1_NameEnd.calls k4 (rdOf ByteArray.empty l0_0 x8_3) 0 t432 _ A130.out).mono ?_); rintro e w' ⟨rfl, ⟨nd, rfl⟩⟩; (try first | exact ⟨rfl, _, World.drewN_drewN _ _ _⟩ | exact ⟨rfl, _, Eq.trans (World.drewN_drewN _ _ _) (congrArg (World.drewN _) (Nat.add_assoc _ _ _))⟩); have p433 : 0 ≤ (x8_3 : Int) := of_decide_eq_true (zz1); have q433 : x8_3 < (l0_0.length : Int) := of_decide_eq_true (zz1); obtain ⟨ad433, e433, hx433_0⟩ := Kd.at_string HR0_0.out x8_3 p433 q433; obtain rfl : ad430 = ad433 := (by injection e433); replace hx433_0 := (HB.out.cell (World.block_lt_of_cell? w _ hx433_0)).trans hx433_0; replace p433 := eq_true p433; replace q433 := eq_true q433; have p434 : 0 ≤ ((ji134) : Int) := of_decide_eq_true (zz1); have q434 : (ji134) < (l0_0.length : Int) := of_decide_eq_true (zz1); obtain ⟨ad434, e434, hx434_0⟩ := Kd.at_string HR0_0.out (ji134) p434 q434; obtain rfl : ad430 = ad434 := (by injection e434); replace hx434_0 := (HB.out.cell (World.block_lt_of_cell? w _ hx434_0)).trans hx434_0; replace p434 := eq_true p434; replace q434 := eq_true q434; have p435 : 0 ≤ (x8_3 : Int) := of_decide_eq_true (zz1); have q435 : x8_3 < (l0_0.length : Int) := of_decide_eq_true (zz1); obtain ⟨ad435, e435, hx435_0⟩ := Kd.at_string HR0_0.out x8_3 p435 q435; obtain rfl : ad430 = ad435 := (by injection e435); replace hx435_0 := (HB.out.cell (World.block_lt_of_cell? w _ hx435_0)).trans hx435_0; replace p435 := eq_true p435; replace q435 := eq_true q435)); try go_wp2_with (first | (go_at_call 53; (with_reducible refine (R1_NameEnd.calls k4 (rdOf ByteArray.empty l0_0 x8_3) 0 t432 _ A130.out).mono ?_); rintro e w' ⟨rfl, ⟨nd, rfl⟩⟩; (try first | exact ⟨rfl, _, World.drewN_drewN _ _ _⟩ | exact ⟨rfl, _, Eq.trans (World.drewN_drewN _ _ _) (congrArg (World.drewN _) (Nat.add_assoc _ _ _))⟩); have p433 : 0 ≤ (x8_3 : Int) := of_decide_eq_true (zz1); have q433 : x8_3 < (l0_0.length : Int) := of_decide_eq_true (zz1); obtain ⟨ad433, e433, hx433_0⟩ := Kd.at_string HR0_0.out x8_3 p433 q433; obtain rfl : ad430 = ad433 := (by injection e433); replace hx433_0 := (HB.out.cell (World.block_lt_of_cell? w _ hx433_0)).trans hx433_0; replace p433 := eq_true p433; replace q433 := eq_true q433; have p434 : 0 ≤ ((ji134) : Int) := of_decide_eq_true (zz1); have q434 : (ji134) < (l0_0.length : Int) := of_decide_eq_true (zz1); obtain ⟨ad434, e434, hx434_0⟩ := Kd.at_string HR0_0.out (ji134) p434 q434; obtain rfl : ad430 = ad434 := (by injection e434); replace hx434_0 := (HB.out.cell (World.block_lt_of_cell? w _ hx434_0)).trans hx434_0; replace p434 := eq_true p434; replace q434 := eq_true q434; have p435 : 0 ≤ (x8_3 : Int) := of_decide_eq_true (zz1); have q435 : x8_3 < (l0_0.length : Int) := of_decide_eq_true (zz1); obtain ⟨ad435, e435, hx435_0⟩ := Kd.at_string HR0_0.out x8_3 p435 q435; obtain rfl : ad430 = ad435 := (by injection e435); replace hx435_0 := (HB.out.cell (World.block_lt_of_cell? w _ hx435_0)).trans hx435_0; replace p435 := eq_true p435; replace q435 := eq_true q435)))
                          go_roundg k4
                          case measure => have := HJ1.out; have := HK2.out; have := HK3.out; have := HK4.out; omega
                          case rel => exact ⟨(wrap64 (x8_3 + 1)), (zz7), H', ⟨by have := HJ1.out; have := HK2.out; have := HK3.out; have := HK4.out; omega⟩, ⟨zz3⟩, ⟨zz4⟩⟩
                         ·rw [if_neg c137] at H
                          have c137b0 : (Op.bytesLess ((rdOf ByteArray.empty l0_0 (ji134)).toList) ((rdOf ByteArray.empty l0_0 x8_3).toList)) = false := by simpa using c137
                          clear c137
                          obtain rfl := Option.some.inj H
                          have hcz139_0 : wr.cell? ⟨gb413, 0, none⟩ = some (.slice A0_0 l0_0.length c0_0) := (blk_cell BK413.out 0).trans rfl
                          have hcz139_1 : wr.cell? ⟨gb413, 1, none⟩ = some (.slice A0_1 l0_1.length c0_1) := (blk_cell BK413.out 1).trans rfl
                          have hfz139_0 := blk_frozen BK413.out 0
                          have hfz139_1 := blk_frozen BK413.out 1
                          have p430 : 0 ≤ (x8_3 : Int) := of_decide_eq_true (zz1)
                          have q430 : x8_3 < (l0_0.length : Int) := of_decide_eq_true (zz1)
                          obtain ⟨ad430, e430, hx430_0⟩ := Kd.at_string HR0_0.out x8_3 p430 q430
                          cases e430
                          replace hx430_0 := (HB.out.cell (World.block_lt_of_cell? w _ hx430_0)).trans hx430_0
                          replace p430 := eq_true p430
                          replace q430 := eq_true q430
                          have p431 : 0 ≤ (x8_3 : Int) := of_decide_eq_true (zz1)
                          have q431 : x8_3 < (l0_0.length : Int) := of_decide_eq_true (zz1)
                          obtain ⟨ad431, e431, hx431_0⟩ := Kd.at_string HR0_0.out x8_3 p431 q431
                          obtain rfl : ad430 = ad431 := (by injection e431)
                          replace hx431_0 := (HB.out.cell (World.block_lt_of_cell? w _ hx431_0)).trans hx431_0
                          replace p431 := eq_true p431
                          replace q431 := eq_true q431
                          go_wp2_with (first | (go_at_call 53; (with_reducible refine (R1_NameEnd.calls k4 (rdOf ByteArray.empty l0_0 x8_3) 0 t432 _ A130.out).mono ?_); rintro e w' ⟨rfl, ⟨nd, rfl⟩⟩; (try first | exact ⟨rfl, _, World.drewN_drewN _ _ _⟩ | exact ⟨rfl, _, Eq.trans (World.drewN_drewN _ _ _) (congrArg (World.drewN _) (Nat.add_assoc _ _ _))⟩); have p433 : 0 ≤ (x8_3 : Int) := of_decide_eq_true (zz1); have q433 : x8_3 < (l0_0.length : Int) := of_decide_eq_true (zz1); obtain ⟨ad433, e433, hx433_0⟩ := Kd.at_string HR0_0.out x8_3 p433 q433; obtain rfl : ad430 = ad433 := (by injection e433); replace hx433_0 := (HB.out.cell (World.block_lt_of_cell? w _ hx433_0)).trans hx433_0; replace p433 := eq_true p433; replace q433 := eq_true q433; have p434 : 0 ≤ ((ji134) : Int) := of_decide_eq_true (zz1); have q434 : (ji134) < (l0_0.length : Int) := of_decide_eq_true (zz1); obtain ⟨ad434, e434, hx434_0⟩ := Kd.at_string HR0_0.out (ji134) p434 q434; obtain rfl : ad430 = ad434 := (by injection e434); replace hx434_0 := (HB.out.cell (World.block_lt_of_cell? w _ hx434_0)).trans hx434_0; replace p434 := eq_true p434; replace q434 := eq_true q434; have p435 : 0 ≤ (x8_3 : Int) := of_decide_eq_true (zz1); have q435 : x8_3 < (l0_0.length : Int) := of_decide_eq_true (zz1); obtain ⟨ad435, e435, hx435_0⟩ := Kd.at_string HR0_0.out x8_3 p435 q435; obtain rfl : ad430 = ad435 := (by injection e435); replace hx435_0 := (HB.out.cell (World.block_lt_of_cell? w _ hx435_0)).trans hx435_0; replace p435 := eq_true p435; replace q435 := eq_true q435))
                          repeat (go_quiet (first | (go_at_call 53; (with_reducible refine (R1_NameEnd.calls k4 (rdOf ByteArray.empty l0_0 x8_3) 0 t432 _ A130.out).mono ?_); rintro e w' ⟨rfl, ⟨nd, rfl⟩⟩; (try first | exact ⟨rfl, _, World.drewN_drewN _ _ _⟩ | exact ⟨rfl, _, Eq.trans (World.drewN_drewN _ _ _) (congrArg (World.drewN _) (Nat.add_assoc _ _ _))⟩); have p433 : 0 ≤ (x8_3 : Int) := of_decide_eq_true (zz1); have q433 : x8_3 < (l0_0.length : Int) := of_decide_eq_true (zz1); obtain ⟨ad433, e433, hx433_0⟩ := Kd.at_string HR0_0.out x8_3 p433 q433; obtain rfl : ad430 = ad433 := (by injection e433); replace hx433_0 := (HB.out.cell (World.block_lt_of_cell? w _ hx433_0)).trans hx433_0; replace p433 := eq_true p433; replace q433 := eq_true q433; have p434 : 0 ≤ ((ji134) : Int) := of_decide_eq_true (zz1); have q434 : (ji134) < (l0_0.length : Int) := of_decide_eq_true (zz1); obtain ⟨ad434, e434, hx434_0⟩ := Kd.at_string HR0_0.out (ji134) p434 q434; obtain rfl : ad430 = ad434 := (by injection e434); replace hx434_0 := (HB.out.cell (World.block_lt_of_cell? w _ hx434_0)).trans hx434_0; replace p434 := eq_true p434; replace q434 := eq_true q434; have p435 : 0 ≤ (x8_3 : Int) := of_decide_eq_true (zz1); have q435 : x8_3 < (l0_0.length : Int) := of_decide_eq_true (zz1); obtain ⟨ad435, e435, hx435_0⟩ := Kd.at_string HR0_0.out x8_3 p435 q435; obtain rfl : ad430 = ad435 := (by injection e435); replace hx435_0 := (HB.out.cell (World.block_lt_of_cell? w _ hx435_0)).trans hx435_0; replace p435 := eq_true p435; replace q435 := eq_true q435)); try go_wp2_with (first | (go_at_call 53; (with_reducible refine (R1_NameEnd.calls k4 (rdOf ByteArray.empty l0_0 x8_3) 0 t432 _ A130.out).mono ?_); rintro e w' ⟨rfl, ⟨nd, rfl⟩⟩; (try first | exact ⟨rfl, _, World.drewN_drewN _ _ _⟩ | exact ⟨rfl, _, Eq.trans (World.drewN_drewN _ _ _) (congrArg (World.drewN _) (Nat.add_assoc _ _ _))⟩); have p433 : 0 ≤ (x8_3 : Int) := of_decide_eq_true (zz1); have q433 : x8_3 < (l0_0.length : Int) := of_decide_eq_true (zz1); obtain ⟨ad433, e433, hx433_0⟩ := Kd.at_string HR0_0.out x8_3 p433 q433; obtain rfl : ad430 = ad433 := (by injection e433); replace hx433_0 := (HB.out.cell (World.block_lt_of_cell? w _ hx433_0)).trans hx433_0; replace p433 := eq_true p433; replace q433 := eq_true q433; have p434 : 0 ≤ ((ji134) : Int) := of_decide_eq_true (zz1); have q434 : (ji134) < (l0_0.length : Int) := of_decide_eq_true (zz1); obtain ⟨ad434, e434, hx434_0⟩ := Kd.at_string HR0_0.out (ji134) p434 q434; obtain rfl : ad430 = ad434 := (by injection e434); replace hx434_0 := (HB.out.cell (World.block_lt_of_cell? w _ hx434_0)).trans hx434_0; replace p434 := eq_true p434; replace q434 := eq_true q434; have p435 : 0 ≤ (x8_3 : Int) := of_decide_eq_true (zz1); have q435 : x8_3 < (l0_0.length : Int) := of_decide_eq_true (zz1); obtain ⟨ad435, e435, hx435_0⟩ := Kd.at_string HR0_0.out x8_3 p435 q435; obtain rfl : ad430 = ad435 := (by injection e435); replace hx435_0 := (HB.out.cell (World.block_lt_of_cell? w _ hx435_0)).trans hx435_0; replace p435 := eq_true p435; replace q435 := eq_true q435)))
                          go_ret
                          exact ⟨by first | rfl | (simp [errW_none, errW_some] <;> rfl) | (simp only [← hji134]; first | rfl | (simp [errW_none, errW_some] <;> rfl)) | (simp [*, errW_none, errW_some] <;> rfl), zz4⟩
                        ·rw [if_neg c136] at H
                         exact absurd H (by simp)
                       ·rw [if_neg c135] at H
                        exact absurd H (by simp)
                      ·rw [if_neg c133] at H
                       have c133b0 : decide (0 < x8_3) = false := decide_eq_false c133
                       clear c133
                       have H' := Aside0.mk H
                       clear H
                       have hcz140_0 : wr.cell? ⟨gb413, 0, none⟩ = some (.slice A0_0 l0_0.length c0_0) := (blk_cell BK413.out 0).trans rfl
                       have hcz140_1 : wr.cell? ⟨gb413, 1, none⟩ = some (.slice A0_1 l0_1.length c0_1) := (blk_cell BK413.out 1).trans rfl
                       have hfz140_0 := blk_frozen BK413.out 0
                       have hfz140_1 := blk_frozen BK413.out 1
                       have p430 : 0 ≤ (x8_3 : Int) := of_decide_eq_true (zz1)
                       have q430 : x8_3 < (l0_0.length : Int) := of_decide_eq_true (zz1)
                       obtain ⟨ad430, e430, hx430_0⟩ := Kd.at_string HR0_0.out x8_3 p430 q430
                       cases e430
                       replace hx430_0 := (HB.out.cell (World.block_lt_of_cell? w _ hx430_0)).trans hx430_0
                       replace p430 := eq_true p430
                       replace q430 := eq_true q430
                       have p431 : 0 ≤ (x8_3 : Int) := of_decide_eq_true (zz1)
                       have q431 : x8_3 < (l0_0.length : Int) := of_decide_eq_true (zz1)
                       obtain ⟨ad431, e431, hx431_0⟩ := Kd.at_string HR0_0.out x8_3 p431 q431
                       obtain rfl : ad430 = ad431 := (by injection e431)
                       replace hx431_0 := (HB.out.cell (World.block_lt_of_cell? w _ hx431_0)).trans hx431_0
                       replace p431 := eq_true p431
                       replace q431 := eq_true q431
                       go_wp2_with (first | (go_at_call 53; (with_reducible refine (R1_NameEnd.calls k4 (rdOf ByteArray.empty l0_0 x8_3) 0 t432 _ A130.out).mono ?_); rintro e w' ⟨rfl, ⟨nd, rfl⟩⟩; (try first | exact ⟨rfl, _, World.drewN_drewN _ _ _⟩ | exact ⟨rfl, _, Eq.trans (World.drewN_drewN _ _ _) (congrArg (World.drewN _) (Nat.add_assoc _ _ _))⟩); have p433 : 0 ≤ (x8_3 : Int) := of_decide_eq_true (zz1); have q433 : x8_3 < (l0_0.length : Int) := of_decide_eq_true (zz1); obtain ⟨ad433, e433, hx433_0⟩ := Kd.at_string HR0_0.out x8_3 p433 q433; obtain rfl : ad430 = ad433 := (by injection e433); replace hx433_0 := (HB.out.cell (World.block_lt_of_cell? w _ hx433_0)).trans hx433_0; replace p433 := eq_true p433; replace q433 := eq_true q433))
                       repeat (go_quiet (first | (go_at_call 53; (with_reducible refine (R1_NameEnd.calls k4 (rdOf ByteArray.empty l0_0 x8_3) 0 t432 _ A130.out).mono ?_); rintro e w' ⟨rfl, ⟨nd, rfl⟩⟩; (try first | exact ⟨rfl, _, World.drewN_drewN _ _ _⟩ | exact ⟨rfl, _, Eq.trans (World.drewN_drewN _ _ _) (congrArg (World.drewN _) (Nat.add_assoc _ _ _))⟩); have p433 : 0 ≤ (x8_3 : Int) := of_decide_eq_true (zz1); have q433 : x8_3 < (l0_0.length : Int) := of_decide_eq_true (zz1); obtain ⟨ad433, e433, hx433_0⟩ := Kd.at_string HR0_0.out x8_3 p433 q433; obtain rfl : ad430 = ad433 := (by injection e433); replace hx433_0 := (HB.out.cell (World.block_lt_of_cell? w _ hx433_0)).trans hx433_0; replace p433 := eq_true p433; replace q433 := eq_true q433)); try go_wp2_with (first | (go_at_call 53; (with_reducible refine (R1_NameEnd.calls k4 (rdOf ByteArray.empty l0_0 x8_3) 0 t432 _ A130.out).mono ?_); rintro e w' ⟨rfl, ⟨nd, rfl⟩⟩; (try first | exact ⟨rfl, _, World.drewN_drewN _ _ _⟩ | exact ⟨rfl, _, Eq.trans (World.drewN_drewN _ _ _) (congrArg (World.drewN _) (Nat.add_assoc _ _ _))⟩); have p433 : 0 ≤ (x8_3 : Int) := of_decide_eq_true (zz1); have q433 : x8_3 < (l0_0.length : Int) := of_decide_eq_true (zz1); obtain ⟨ad433, e433, hx433_0⟩ := Kd.at_string HR0_0.out x8_3 p433 q433; obtain rfl : ad430 = ad433 := (by injection e433); replace hx433_0 := (HB.out.cell (World.block_lt_of_cell? w _ hx433_0)).trans hx433_0; replace p433 := eq_true p433; replace q433 := eq_true q433)))
                       go_roundg k4
                       case measure => have := HJ1.out; have := HK2.out; have := HK3.out; have := HK4.out; omega
                       case rel => exact ⟨(wrap64 (x8_3 + 1)), (zz7), H', ⟨by have := HJ1.out; have := HK2.out; have := HK3.out; have := HK4.out; omega⟩, ⟨zz3⟩, ⟨zz4⟩⟩
                     ·rw [if_neg c132] at H
                      have c132b0 : (t432 == ((rdOf ByteArray.empty l0_0 x8_3).size : Int)) = false := beq_eq_false_iff_ne.mpr c132
                      have c132b1 : (t432 != ((rdOf ByteArray.empty l0_0 x8_3).size : Int)) = true := bne_iff_ne.mpr c132
                      obtain rfl := Option.some.inj H
                      have hcz141_0 : wr.cell? ⟨gb413, 0, none⟩ = some (.slice A0_0 l0_0.length c0_0) := (blk_cell BK413.out 0).trans rfl
                      have hcz141_1 : wr.cell? ⟨gb413, 1, none⟩ = some (.slice A0_1 l0_1.length c0_1) := (blk_cell BK413.out 1).trans rfl
                      have hfz141_0 := blk_frozen BK413.out 0
                      have hfz141_1 := blk_frozen BK413.out 1
                      have p430 : 0 ≤ (x8_3 : Int) := of_decide_eq_true (zz1)
                      have q430 : x8_3 < (l0_0.length : Int) := of_decide_eq_true (zz1)
                      obtain ⟨ad430, e430, hx430_0⟩ := Kd.at_string HR0_0.out x8_3 p430 q430
                      cases e430
                      replace hx430_0 := (HB.out.cell (World.block_lt_of_cell? w _ hx430_0)).trans hx430_0
                      replace p430 := eq_true p430
                      replace q430 := eq_true q430
                      have p431 : 0 ≤ (x8_3 : Int) := of_decide_eq_true (zz1)
                      have q431 : x8_3 < (l0_0.length : Int) := of_decide_eq_true (zz1)
                      obtain ⟨ad431, e431, hx431_0⟩ := Kd.at_string HR0_0.out x8_3 p431 q431
                      obtain rfl : ad430 = ad431 := (by injection e431)
                      replace hx431_0 := (HB.out.cell (World.block_lt_of_cell? w _ hx431_0)).trans hx431_0
                      replace p431 := eq_true p431
                      replace q431 := eq_true q431
                      go_wp2_with (first | (go_at_call 53; (with_reducible refine (R1_NameEnd.calls k4 (rdOf ByteArray.empty l0_0 x8_3) 0 t432 _ A130.out).mono ?_); rintro e w' ⟨rfl, ⟨nd, rfl⟩⟩; (try first | exact ⟨rfl, _, World.drewN_drewN _ _ _⟩ | exact ⟨rfl, _, Eq.trans (World.drewN_drewN _ _ _) (congrArg (World.drewN _) (Nat.add_assoc _ _ _))⟩); have p433 : 0 ≤ (x8_3 : Int) := of_decide_eq_true (zz1); have q433 : x8_3 < (l0_0.length : Int) := of_decide_eq_true (zz1); obtain ⟨ad433, e433, hx433_0⟩ := Kd.at_string HR0_0.out x8_3 p433 q433; obtain rfl : ad430 = ad433 := (by injection e433); replace hx433_0 := (HB.out.cell (World.block_lt_of_cell? w _ hx433_0)).trans hx433_0; replace p433 := eq_true p433; replace q433 := eq_true q433))
                      repeat (go_quiet (first | (go_at_call 53; (with_reducible refine (R1_NameEnd.calls k4 (rdOf ByteArray.empty l0_0 x8_3) 0 t432 _ A130.out).mono ?_); rintro e w' ⟨rfl, ⟨nd, rfl⟩⟩; (try first | exact ⟨rfl, _, World.drewN_drewN _ _ _⟩ | exact ⟨rfl, _, Eq.trans (World.drewN_drewN _ _ _) (congrArg (World.drewN _) (Nat.add_assoc _ _ _))⟩); have p433 : 0 ≤ (x8_3 : Int) := of_decide_eq_true (zz1); have q433 : x8_3 < (l0_0.length : Int) := of_decide_eq_true (zz1); obtain ⟨ad433, e433, hx433_0⟩ := Kd.at_string HR0_0.out x8_3 p433 q433; obtain rfl : ad430 = ad433 := (by injection e433); replace hx433_0 := (HB.out.cell (World.block_lt_of_cell? w _ hx433_0)).trans hx433_0; replace p433 := eq_true p433; replace q433 := eq_true q433)); try go_wp2_with (first | (go_at_call 53; (with_reducible refine (R1_NameEnd.calls k4 (rdOf ByteArray.empty l0_0 x8_3) 0 t432 _ A130.out).mono ?_); rintro e w' ⟨rfl, ⟨nd, rfl⟩⟩; (try first | exact ⟨rfl, _, World.drewN_drewN _ _ _⟩ | exact ⟨rfl, _, Eq.trans (World.drewN_drewN _ _ _) (congrArg (World.drewN _) (Nat.add_assoc _ _ _))⟩); have p433 : 0 ≤ (x8_3 : Int) := of_decide_eq_true (zz1); have q433 : x8_3 < (l0_0.length : Int) := of_decide_eq_true (zz1); obtain ⟨ad433, e433, hx433_0⟩ := Kd.at_string HR0_0.out x8_3 p433 q433; obtain rfl : ad430 = ad433 := (by injection e433); replace hx433_0 := (HB.out.cell (World.block_lt_of_cell? w _ hx433_0)).trans hx433_0; replace p433 := eq_true p433; replace q433 := eq_true q433)))
                      go_ret
                      exact ⟨zz11, zz4⟩
                    ·replace c131 := Bool.eq_false_iff.mpr c131
                     subst c131
                     rw [if_neg (show ¬ (false = true) by decide)] at H
                     obtain rfl := Option.some.inj H
                     have hcz142_0 : wr.cell? ⟨gb413, 0, none⟩ = some (.slice A0_0 l0_0.length c0_0) := (blk_cell BK413.out 0).trans rfl
                     have hcz142_1 : wr.cell? ⟨gb413, 1, none⟩ = some (.slice A0_1 l0_1.length c0_1) := (blk_cell BK413.out 1).trans rfl
                     have hfz142_0 := blk_frozen BK413.out 0
                     have hfz142_1 := blk_frozen BK413.out 1
                     have p430 : 0 ≤ (x8_3 : Int) := of_decide_eq_true (zz1)
                     have q430 : x8_3 < (l0_0.length : Int) := of_decide_eq_true (zz1)
                     obtain ⟨ad430, e430, hx430_0⟩ := Kd.at_string HR0_0.out x8_3 p430 q430
                     cases e430
                     replace hx430_0 := (HB.out.cell (World.block_lt_of_cell? w _ hx430_0)).trans hx430_0
                     replace p430 := eq_true p430
                     replace q430 := eq_true q430
                     have p431 : 0 ≤ (x8_3 : Int) := of_decide_eq_true (zz1)
                     have q431 : x8_3 < (l0_0.length : Int) := of_decide_eq_true (zz1)
                     obtain ⟨ad431, e431, hx431_0⟩ := Kd.at_string HR0_0.out x8_3 p431 q431
                     obtain rfl : ad430 = ad431 := (by injection e431)
                     replace hx431_0 := (HB.out.cell (World.block_lt_of_cell? w _ hx431_0)).trans hx431_0
                     replace p431 := eq_true p431
                     replace q431 := eq_true q431
                     go_wp2_with (first | (go_at_call 53; (with_reducible refine (R1_NameEnd.calls k4 (rdOf ByteArray.empty l0_0 x8_3) 0 t432 _ A130.out).mono ?_); rintro e w' ⟨rfl, ⟨nd, rfl⟩⟩; (try first | exact ⟨rfl, _, World.drewN_drewN _ _ _⟩ | exact ⟨rfl, _, Eq.trans (World.drewN_drewN _ _ _) (congrArg (World.drewN _) (Nat.add_assoc _ _ _))⟩); have p433 : 0 ≤ (x8_3 : Int) := of_decide_eq_true (zz1); have q433 : x8_3 < (l0_0.length : Int) := of_decide_eq_true (zz1); obtain ⟨ad433, e433, hx433_0⟩ := Kd.at_string HR0_0.out x8_3 p433 q433; obtain rfl : ad430 = ad433 := (by injection e433); replace hx433_0 := (HB.out.cell (World.block_lt_of_cell? w _ hx433_0)).trans hx433_0; replace p433 := eq_true p433; replace q433 := eq_true q433))
                     repeat (go_quiet (first | (go_at_call 53; (with_reducible refine (R1_NameEnd.calls k4 (rdOf ByteArray.empty l0_0 x8_3) 0 t432 _ A130.out).mono ?_); rintro e w' ⟨rfl, ⟨nd, rfl⟩⟩; (try first | exact ⟨rfl, _, World.drewN_drewN _ _ _⟩ | exact ⟨rfl, _, Eq.trans (World.drewN_drewN _ _ _) (congrArg (World.drewN _) (Nat.add_assoc _ _ _))⟩); have p433 : 0 ≤ (x8_3 : Int) := of_decide_eq_true (zz1); have q433 : x8_3 < (l0_0.length : Int) := of_decide_eq_true (zz1); obtain ⟨ad433, e433, hx433_0⟩ := Kd.at_string HR0_0.out x8_3 p433 q433; obtain rfl : ad430 = ad433 := (by injection e433); replace hx433_0 := (HB.out.cell (World.block_lt_of_cell? w _ hx433_0)).trans hx433_0; replace p433 := eq_true p433; replace q433 := eq_true q433)); try go_wp2_with (first | (go_at_call 53; (with_reducible refine (R1_NameEnd.calls k4 (rdOf ByteArray.empty l0_0 x8_3) 0 t432 _ A130.out).mono ?_); rintro e w' ⟨rfl, ⟨nd, rfl⟩⟩; (try first | exact ⟨rfl, _, World.drewN_drewN _ _ _⟩ | exact ⟨rfl, _, Eq.trans (World.drewN_drewN _ _ _) (congrArg (World.drewN _) (Nat.add_assoc _ _ _))⟩); have p433 : 0 ≤ (x8_3 : Int) := of_decide_eq_true (zz1); have q433 : x8_3 < (l0_0.length : Int) := of_decide_eq_true (zz1); obtain ⟨ad433, e433, hx433_0⟩ := Kd.at_string HR0_0.out x8_3 p433 q433; obtain rfl : ad430 = ad433 := (by injection e433); replace hx433_0 := (HB.out.cell (World.block_lt_of_cell? w _ hx433_0)).trans hx433_0; replace p433 := eq_true p433; replace q433 := eq_true q433)))
                     go_ret
                     exact ⟨zz11, zz4⟩
                   ·rw [if_neg c129] at H
                    have c129b0 : decide (0 < ((rdOf ByteArray.empty l0_0 x8_3).size : Int)) = false := decide_eq_false c129
                    have c129b1 : decide (0 < (rdOf ByteArray.empty l0_0 x8_3).size) = false := decide_eq_false (by omega)
                    clear c129
                    by_cases c143 : x9_4 = true
                    ·subst c143
                     rw [if_pos rfl] at H
                     obtain rfl := Option.some.inj H
                     have hcz144_0 : wr.cell? ⟨gb413, 0, none⟩ = some (.slice A0_0 l0_0.length c0_0) := (blk_cell BK413.out 0).trans rfl
                     have hcz144_1 : wr.cell? ⟨gb413, 1, none⟩ = some (.slice A0_1 l0_1.length c0_1) := (blk_cell BK413.out 1).trans rfl
                     have hfz144_0 := blk_frozen BK413.out 0
                     have hfz144_1 := blk_frozen BK413.out 1
                     have p430 : 0 ≤ (x8_3 : Int) := of_decide_eq_true (zz1)
                     have q430 : x8_3 < (l0_0.length : Int) := of_decide_eq_true (zz1)
                     obtain ⟨ad430, e430, hx430_0⟩ := Kd.at_string HR0_0.out x8_3 p430 q430
                     cases e430
                     replace hx430_0 := (HB.out.cell (World.block_lt_of_cell? w _ hx430_0)).trans hx430_0
                     replace p430 := eq_true p430
                     replace q430 := eq_true q430
                     go_wp2
                     repeat (go_quiet (fail); try go_wp2)
                     go_ret
                     exact ⟨zz11, zz4⟩
                    ·replace c143 := Bool.eq_false_iff.mpr c143
                     subst c143
                     rw [if_neg (show ¬ (false = true) by decide)] at H
                     obtain rfl := Option.some.inj H
                     have hcz145_0 : wr.cell? ⟨gb413, 0, none⟩ = some (.slice A0_0 l0_0.length c0_0) := (blk_cell BK413.out 0).trans rfl
                     have hcz145_1 : wr.cell? ⟨gb413, 1, none⟩ = some (.slice A0_1 l0_1.length c0_1) := (blk_cell BK413.out 1).trans rfl
                     have hfz145_0 := blk_frozen BK413.out 0
                     have hfz145_1 := blk_frozen BK413.out 1
                     have p430 : 0 ≤ (x8_3 : Int) := of_decide_eq_true (zz1)
                     have q430 : x8_3 < (l0_0.length : Int) := of_decide_eq_true (zz1)
                     obtain ⟨ad430, e430, hx430_0⟩ := Kd.at_string HR0_0.out x8_3 p430 q430
                     cases e430
                     replace hx430_0 := (HB.out.cell (World.block_lt_of_cell? w _ hx430_0)).trans hx430_0
                     replace p430 := eq_true p430
                     replace q430 := eq_true q430
                     go_wp2
                     repeat (go_quiet (fail); try go_wp2)
                     go_ret
                     exact ⟨zz11, zz4⟩
                  ·rw [if_neg c128] at H
                   exact absurd H (by simp)
                 ·rw [if_neg c127] at H
                  exact absurd H (by simp)
            ·rw [if_neg c120] at H
             have c120b0 : decide (x8_3 < (l0_0.length : Int)) = false := decide_eq_false c120
             clear c120
             obtain rfl := Option.some.inj H
             have hcz146_0 : wr.cell? ⟨gb413, 0, none⟩ = some (.slice A0_0 l0_0.length c0_0) := (blk_cell BK413.out 0).trans rfl
             have hcz146_1 : wr.cell? ⟨gb413, 1, none⟩ = some (.slice A0_1 l0_1.length c0_1) := (blk_cell BK413.out 1).trans rfl
             have hfz146_0 := blk_frozen BK413.out 0
             have hfz146_1 := blk_frozen BK413.out 1
             go_wp2
             repeat (go_quiet (fail); try go_wp2)
             go_ret
             exact ⟨zz11, zz4⟩
        all_goals first
        | (have H' := Aside0.mk H
           clear H
           have hczz1 : wr.cell? ⟨gb413, 0, none⟩ = some (.slice A0_0 l0_0.length c0_0) := (blk_cell BK413.out 0).trans rfl
           have hczz2 : wr.cell? ⟨gb413, 1, none⟩ = some (.slice A0_1 l0_1.length c0_1) := (blk_cell BK413.out 1).trans rfl
           have hfzz1 := blk_frozen BK413.out 0
           have hfzz2 := blk_frozen BK413.out 1
           have p416 : 0 ≤ (x3_2 : Int) := of_decide_eq_true (zz1)
           have q416 : x3_2 < (l0_1.length : Int) := of_decide_eq_true (zz1)
           obtain ⟨ad416, e416, hx416_0, hx416_1, hx416_2, hx416_3⟩ := at_T41 HR0_1.out x3_2 p416 q416
           cases e416
           replace hx416_0 := (HB.out.cell (World.block_lt_of_cell? w _ hx416_0)).trans hx416_0
           replace hx416_1 := (HB.out.cell (World.block_lt_of_cell? w _ hx416_1)).trans hx416_1
           replace hx416_2 := (HB.out.cell (World.block_lt_of_cell? w _ hx416_2)).trans hx416_2
           replace hx416_3 := (HB.out.cell (World.block_lt_of_cell? w _ hx416_3)).trans hx416_3
           replace p416 := eq_true p416
           replace q416 := eq_true q416
           go_wp2_with (first | ((with_reducible refine gate_dst (N := 4) rfl ?_); (try (refine gate_guard (by rfl) ?_; dsimp only)); refine box_event ?hg (N := 4) ?hd (cs := #[.int .i64 0, .int .i64 0, .int .i64 0, .string (⟨#[]⟩ : ByteArray)]) (t := 41) ?hr ?_; (case hd => rfl); (case hg => rfl); (case hr => first | (go_simp; done) | (go_simp; rfl)); intro gb417 hg wz1 hbox hb; have n0_ := Aside0.mk (blk_below (g := gb413) (o := .cells #[.slice A0_0 l0_0.length c0_0, .slice (some ad416) l0_1.length c0_1] 27 (0, 0)) (zz3) hb); have n1_ := Aside0.mk (below_step (zz4) hb); have n2_ := Aside0.mk (hbox); have n3_ := Aside0.mk ((by rw [hg]; exact (below_size (zz4)) : w.heap.size ≤ gb417)); have n4_ := Aside0.mk ((by rw [hg]; exact (below_size (zz4)) : w.heap.size ≤ gb417)); have n5_ := Aside0.mk ((zz39 : gb413 ≠ gb417)); have n6_ := Aside0.mk ((zz40 : gb417 ≠ gb413)); clear BK413; clear HB; have BK413 := n0_; have HB := n1_; have BK417 := n2_; have GW417 := n3_; have GE417 := n4_; have NB413_417 := n5_; have NB417_413 := n6_; clear n0_ n1_ n2_ n3_ n4_ n5_ n6_; clear hb hbox hg; have hnbz1 := NB417_413.out; have hncz1 := NB413_417.out; have hczz3 : wz1.cell? ⟨gb417, 0, none⟩ = some (.int .i64 0) := (blk_cell BK417.out 0).trans rfl; have hczz4 : wz1.cell? ⟨gb417, 1, none⟩ = some (.int .i64 0) := (blk_cell BK417.out 1).trans rfl; have hczz5 : wz1.cell? ⟨gb417, 2, none⟩ = some (.int .i64 0) := (blk_cell BK417.out 2).trans rfl; have hczz6 : wz1.cell? ⟨gb417, 3, none⟩ = some (.string (⟨#[]⟩ : ByteArray)) := (blk_cell BK417.out 3).trans rfl; have hfzz3 := blk_frozen BK417.out 0; have hfzz4 := blk_frozen BK417.out 1; have hfzz5 := blk_frozen BK417.out 2; have hfzz6 := blk_frozen BK417.out 3; have hczz7 : wz1.cell? ⟨gb413, 0, none⟩ = some (.slice A0_0 l0_0.length c0_0) := (blk_cell BK413.out 0).trans rfl; have hczz8 : wz1.cell? ⟨gb413, 1, none⟩ = some (.slice (some ad416) l0_1.length c0_1) := (blk_cell BK413.out 1).trans rfl; have hfzz7 := blk_frozen BK413.out 0; have hfzz8 := blk_frozen BK413.out 1) | (go_at_call 49; (with_reducible refine (R4_node.calls k2 _ _ l0_0 _ _ l0_1 x3_2 true _ ?side1 ?side2 ?side3 ?side4 A17.out).mono ?_); (case side1 => exact Kd.C_below HR0_0.out (zz0)); (case side2 => exact HC0_0.out); (case side3 => exact Kd.C_below HR0_1.out (zz0)); (case side4 => exact HC0_1.out); rintro e wz2 ⟨rfl, hb⟩; have n0_ := Aside0.mk (blk_below (g := gb413) (o := .cells #[.slice A0_0 l0_0.length c0_0, .slice (some ad416) l0_1.length c0_1] 27 (0, 0)) (zz16) hb); have n1_ := Aside0.mk (blk_below (g := gb417) (o := .cells #[.int .i64 ((rd_T41 l0_1 x3_2).f0), .int .i64 ((rd_T41 l0_1 x3_2).f1), .int .i64 ((rd_T41 l0_1 x3_2).f2), .string ((rd_T41 l0_1 x3_2).f3)] 41 (0, 0)) (by (with_reducible repeat (first | refine blk_drewN ?_ _ | refine blk_drew ?_ | refine blk_alloc ?_ _)); refine blk_put (cs := #[.int .i64 ((rd_T41 l0_1 x3_2).f0), .int .i64 ((rd_T41 l0_1 x3_2).f1), .int .i64 ((rd_T41 l0_1 x3_2).f2), .string (⟨#[]⟩ : ByteArray)]) ?_ 3 _ rfl; (with_reducible repeat (first | refine blk_drewN ?_ _ | refine blk_drew ?_ | refine blk_alloc ?_ _)); refine blk_put (cs := #[.int .i64 ((rd_T41 l0_1 x3_2).f0), .int .i64 ((rd_T41 l0_1 x3_2).f1), .int .i64 0, .string (⟨#[]⟩ : ByteArray)]) ?_ 2 _ rfl; (with_reducible repeat (first | refine blk_drewN ?_ _ | refine blk_drew ?_ | refine blk_alloc ?_ _)); refine blk_put (cs := #[.int .i64 ((rd_T41 l0_1 x3_2).f0), .int .i64 0, .int .i64 0, .string (⟨#[]⟩ : ByteArray)]) ?_ 1 _ rfl; (with_reducible repeat (first | refine blk_drewN ?_ _ | refine blk_drew ?_ | refine blk_alloc ?_ _)); refine blk_put (cs := #[.int .i64 0, .int .i64 0, .int .i64 0, .string (⟨#[]⟩ : ByteArray)]) ?_ 0 _ rfl; (with_reducible repeat (first | refine blk_drewN ?_ _ | refine blk_drew ?_ | refine blk_alloc ?_ _)); exact BK417.out) hb); have n2_ := Aside0.mk (below_step (zz0) hb); clear BK413; clear BK417; clear HB; have BK413 := n0_; have BK417 := n1_; have HB := n2_; clear n0_ n1_ n2_; (try clear hb); (try clear hb2); (try clear hk); (try clear hi)))
           repeat (go_quiet (fail); try go_wp2)
           go_roundg k2
           case measure => have := HJ1.out; have := HK2.out; omega
           case rel => exact ⟨(wrap64 (x3_2 + 1)), (zz7), H', ⟨by have := HJ1.out; have := HK2.out; omega⟩, ⟨zz3⟩, ⟨zz0⟩⟩)
        | (obtain rfl := Option.some.inj H
           have hczz1 : wr.cell? ⟨gb413, 0, none⟩ = some (.slice A0_0 l0_0.length c0_0) := (blk_cell BK413.out 0).trans rfl
           have hczz2 : wr.cell? ⟨gb413, 1, none⟩ = some (.slice A0_1 l0_1.length c0_1) := (blk_cell BK413.out 1).trans rfl
           have hfzz1 := blk_frozen BK413.out 0
           have hfzz2 := blk_frozen BK413.out 1
           have p416 : 0 ≤ (x3_2 : Int) := of_decide_eq_true (zz1)
           have q416 : x3_2 < (l0_1.length : Int) := of_decide_eq_true (zz1)
           obtain ⟨ad416, e416, hx416_0, hx416_1, hx416_2, hx416_3⟩ := at_T41 HR0_1.out x3_2 p416 q416
           cases e416
           replace hx416_0 := (HB.out.cell (World.block_lt_of_cell? w _ hx416_0)).trans hx416_0
           replace hx416_1 := (HB.out.cell (World.block_lt_of_cell? w _ hx416_1)).trans hx416_1
           replace hx416_2 := (HB.out.cell (World.block_lt_of_cell? w _ hx416_2)).trans hx416_2
           replace hx416_3 := (HB.out.cell (World.block_lt_of_cell? w _ hx416_3)).trans hx416_3
           replace p416 := eq_true p416
           replace q416 := eq_true q416
           go_wp2_with (first | ((with_reducible refine gate_dst (N := 4) rfl ?_); (try (refine gate_guard (by rfl) ?_; dsimp only)); refine box_event ?hg (N := 4) ?hd (cs := #[.int .i64 0, .int .i64 0, .int .i64 0, .string (⟨#[]⟩ : ByteArray)]) (t := 41) ?hr ?_; (case hd => rfl); (case hg => rfl); (case hr => first | (go_simp; done) | (go_simp; rfl)); intro gb417 hg wz1 hbox hb; have n0_ := Aside0.mk (blk_below (g := gb413) (o := .cells #[.slice A0_0 l0_0.length c0_0, .slice (some ad416) l0_1.length c0_1] 27 (0, 0)) (zz3) hb); have n1_ := Aside0.mk (below_step (zz4) hb); have n2_ := Aside0.mk (hbox); have n3_ := Aside0.mk ((by rw [hg]; exact (below_size (zz4)) : w.heap.size ≤ gb417)); have n4_ := Aside0.mk ((by rw [hg]; exact (below_size (zz4)) : w.heap.size ≤ gb417)); have n5_ := Aside0.mk ((zz39 : gb413 ≠ gb417)); have n6_ := Aside0.mk ((zz40 : gb417 ≠ gb413)); clear BK413; clear HB; have BK413 := n0_; have HB := n1_; have BK417 := n2_; have GW417 := n3_; have GE417 := n4_; have NB413_417 := n5_; have NB417_413 := n6_; clear n0_ n1_ n2_ n3_ n4_ n5_ n6_; clear hb hbox hg; have hnbz1 := NB417_413.out; have hncz1 := NB413_417.out; have hczz3 : wz1.cell? ⟨gb417, 0, none⟩ = some (.int .i64 0) := (blk_cell BK417.out 0).trans rfl; have hczz4 : wz1.cell? ⟨gb417, 1, none⟩ = some (.int .i64 0) := (blk_cell BK417.out 1).trans rfl; have hczz5 : wz1.cell? ⟨gb417, 2, none⟩ = some (.int .i64 0) := (blk_cell BK417.out 2).trans rfl; have hczz6 : wz1.cell? ⟨gb417, 3, none⟩ = some (.string (⟨#[]⟩ : ByteArray)) := (blk_cell BK417.out 3).trans rfl; have hfzz3 := blk_frozen BK417.out 0; have hfzz4 := blk_frozen BK417.out 1; have hfzz5 := blk_frozen BK417.out 2; have hfzz6 := blk_frozen BK417.out 3; have hczz7 : wz1.cell? ⟨gb413, 0, none⟩ = some (.slice A0_0 l0_0.length c0_0) := (blk_cell BK413.out 0).trans rfl; have hczz8 : wz1.cell? ⟨gb413, 1, none⟩ = some (.slice (some ad416) l0_1.length c0_1) := (blk_cell BK413.out 1).trans rfl; have hfzz7 := blk_frozen BK413.out 0; have hfzz8 := blk_frozen BK413.out 1) | (go_at_call 49; (with_reducible refine (R4_node.calls k2 _ _ l0_0 _ _ l0_1 x3_2 false _ ?side1 ?side2 ?side3 ?side4 A17.out).mono ?_); (case side1 => exact Kd.C_below HR0_0.out (zz0)); (case side2 => exact HC0_0.out); (case side3 => exact Kd.C_below HR0_1.out (zz0)); (case side4 => exact HC0_1.out); rintro e wz2 ⟨rfl, hb⟩; have n0_ := Aside0.mk (blk_below (g := gb413) (o := .cells #[.slice A0_0 l0_0.length c0_0, .slice (some ad416) l0_1.length c0_1] 27 (0, 0)) (zz16) hb); have n1_ := Aside0.mk (blk_below (g := gb417) (o := .cells #[.int .i64 ((rd_T41 l0_1 x3_2).f0), .int .i64 ((rd_T41 l0_1 x3_2).f1), .int .i64 ((rd_T41 l0_1 x3_2).f2), .string ((rd_T41 l0_1 x3_2).f3)] 41 (0, 0)) (by (with_reducible repeat (first | refine blk_drewN ?_ _ | refine blk_drew ?_ | refine blk_alloc ?_ _)); refine blk_put (cs := #[.int .i64 ((rd_T41 l0_1 x3_2).f0), .int .i64 ((rd_T41 l0_1 x3_2).f1), .int .i64 ((rd_T41 l0_1 x3_2).f2), .string (⟨#[]⟩ : ByteArray)]) ?_ 3 _ rfl; (with_reducible repeat (first | refine blk_drewN ?_ _ | refine blk_drew ?_ | refine blk_alloc ?_ _)); refine blk_put (cs := #[.int .i64 ((rd_T41 l0_1 x3_2).f0), .int .i64 ((rd_T41 l0_1 x3_2).f1), .int .i64 0, .string (⟨#[]⟩ : ByteArray)]) ?_ 2 _ rfl; (with_reducible repeat (first | refine blk_drewN ?_ _ | refine blk_drew ?_ | refine blk_alloc ?_ _)); refine blk_put (cs := #[.int .i64 ((rd_T41 l0_1 x3_2).f0), .int .i64 0, .int .i64 0, .string (⟨#[]⟩ : ByteArray)]) ?_ 1 _ rfl; (with_reducible repeat (first | refine blk_drewN ?_ _ | refine blk_drew ?_ | refine blk_alloc ?_ _)); refine blk_put (cs := #[.int .i64 0, .int .i64 0, .int .i64 0, .string (⟨#[]⟩ : ByteArray)]) ?_ 0 _ rfl; (with_reducible repeat (first | refine blk_drewN ?_ _ | refine blk_drew ?_ | refine blk_alloc ?_ _)); exact BK417.out) hb); have n2_ := Aside0.mk (below_step (zz0) hb); clear BK413; clear BK417; clear HB; have BK413 := n0_; have BK417 := n1_; have HB := n2_; clear n0_ n1_ n2_; (try clear hb); (try clear hb2); (try clear hk); (try clear hi)))
           repeat (go_quiet (fail); try go_wp2)
           go_ret
           exact ⟨zz11, zz0⟩)
end Go.Proofs.YtlhhhlimjajnlaaGreat.Q
end
