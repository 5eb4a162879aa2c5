/- Parts of the proof of canonTrees_holds, kept and merged by a program of mine (wip/tools/slim.py) out of my texts: Q20 -/
import Derived.Test.YtlhhhlimjajnlaaGreatSPt0
import Derived.Test.YtlhhhlimjajnlaaGreatSPt4
import Derived.Test.YtlhhhlimjajnlaaGreatSPt23
section
namespace Go.Proofs.YtlhhhlimjajnlaaGreat.X
end Go.Proofs.YtlhhhlimjajnlaaGreat.X
namespace Go.Proofs.YtlhhhlimjajnlaaGreat.Q
open Go.RowKit Go.Proofs.YtlhhhlimjajnlaaGreatW.PrintWords Go.Proofs.YtlhhhlimjajnlaaGreatW.PrintLast Go.Proofs.YtlhhhlimjajnlaaGreatW.PrintMore
attribute [local go_sem] max2_int min2_int max_two min_two max_three min_three max_four min_four   
open Go.Proofs.YtlhhhlimjajnlaaGreat.X
set_option linter.unusedVariables false
set_option linter.unusedSimpArgs false
def R4_node.j0 : Nat → Bool → Int → Int → Int → ByteArray → Option (Bool)
 | 0, _, _, _, _, _ => none
 | k + 1, x6, x403000, x403001, x403002, x403003 => (R1_Valid.f k x403003).bind fun t403 => (if x403000 = 1 then (if x6 = true then (some (x403003.toList == ([] : List UInt8))) else (some false)) else (if x403000 = 2 then (if x6 = true then (some t403) else (some false)) else (if x403000 = 3 then (if x403001 = (-1) then (if x403003.toList = ([] : List UInt8) then (some false) else (some t403)) else (some false)) else (some false))))
def R4_node.f (k : Nat) (l0_0 : List ByteArray) (l0_1 : List (S41)) (a1 : Int) : Option (Bool) := if 0 ≤ a1 then (if a1 < (l0_1.length : Int) then (if ((rd_T41 l0_1 a1).f1) ≥ 0 then (R4_node.j0 k (decide (((rd_T41 l0_1 a1).f1) < (l0_0.length : Int))) ((rd_T41 l0_1 a1).f0) ((rd_T41 l0_1 a1).f1) ((rd_T41 l0_1 a1).f2) ((rd_T41 l0_1 a1).f3)) else (R4_node.j0 k false ((rd_T41 l0_1 a1).f0) ((rd_T41 l0_1 a1).f1) ((rd_T41 l0_1 a1).f2) ((rd_T41 l0_1 a1).f3))) else (none)) else (none)
theorem R4_node.mono_l : ∀ k, (∀ y0 y1 y2 y3 y4, LeO (R4_node.j0 k y0 y1 y2 y3 y4) (R4_node.j0 (k + 1) y0 y1 y2 y3 y4))
 | 0 => fun _ _ _ _ _ r h => by simp [R4_node.j0] at h
 | k + 1 => by
  have ih0 := R4_node.mono_l k
  ·intro y0 y1 y2 y3 y4
   unfold R4_node.j0
   have mo0 := @R1_Valid.mono; exact leT
theorem R4_node.mono : ∀ a0 a1 a2 k, LeO (R4_node.f k a0 a1 a2) (R4_node.f (k + 1) a0 a1 a2) := by
 intro a0 a1 a2 k
 have ih0 := R4_node.mono_l k
 unfold R4_node.f
 have mo0 := @R1_Valid.mono; exact leT
set_option maxHeartbeats 8000000 in
set_option maxRecDepth 100000 in
theorem R4_node.calls (k : Nat) (A0_0 : Option Addr) (c0_0 : Nat) (l0_0 : List ByteArray) (A0_1 : Option Addr) (c0_1 : Nat) (l0_1 : List (S41)) (a1 : Int) (r : Bool) (w : World) (hr0_0 : Kd.C Kd.string w A0_0 l0_0.length l0_0) (hc0_0 : l0_0.length ≤ c0_0) (hr0_1 : Kd.C k41 w A0_1 l0_1.length l0_1) (hc0_1 : l0_1.length ≤ c0_1) (h : R4_node.f k l0_0 l0_1 a1 = some r) :
 Calls Tryz.prog 49 #[.agg #[.slice A0_0 l0_0.length c0_0, .slice A0_1 l0_1.length c0_1], .int .i64 a1] w fun e w' => e = .returned (.bool r) ∧ Below w.heap.size w w' := by
 have hu27 := Tryz.underlying27
 have hu41 := Tryz.underlying41
 have HR0_0 := Aside0.mk hr0_0
 have HC0_0 := Aside0.mk hc0_0
 clear hr0_0 hc0_0
 have HR0_1 := Aside0.mk hr0_1
 have HC0_1 := Aside0.mk hc0_1
 clear hr0_1 hc0_1
 have HB := Aside0.mk (Below.refl w.heap.size w)
 have H : (if 0 ≤ a1 then (if a1 < (l0_1.length : Int) then (if ((rd_T41 l0_1 a1).f1) ≥ 0 then (R4_node.j0 k (decide (((rd_T41 l0_1 a1).f1) < (l0_0.length : Int))) ((rd_T41 l0_1 a1).f0) ((rd_T41 l0_1 a1).f1) ((rd_T41 l0_1 a1).f2) ((rd_T41 l0_1 a1).f3)) else (R4_node.j0 k false ((rd_T41 l0_1 a1).f0) ((rd_T41 l0_1 a1).f1) ((rd_T41 l0_1 a1).f2) ((rd_T41 l0_1 a1).f3))) else (none)) else (none)) = some r := h
 clear h
 by_cases c3 : 0 ≤ a1
 ·rw [if_pos c3] at H
  have c3b0 : decide (0 ≤ a1) = true := decide_eq_true c3
  clear c3
  by_cases c4 : a1 < (l0_1.length : Int)
  ·rw [if_pos c4] at H
   have c4b0 : decide (a1 < (l0_1.length : Int)) = true := decide_eq_true c4
   clear c4
   have HC5 := Aside0.mk H
   clear H
   go_enter Tryz.func49, Tryz.ntmps49
   go_upto_region 2 with (first | ((with_reducible refine gate_dst (N := 2) rfl ?_); (((refine gate_guard (by rfl) ?_; dsimp only))); refine box_event ?hg (N := 2) ?hd (cs := #[.slice A0_0 l0_0.length c0_0, .slice A0_1 l0_1.length c0_1]) (t := 27) ?hr ?_; (case hd => rfl); (case hg => rfl); (case hr => ((go_simp; done))); intro gb400 hg w6 hbox hb; have n0_ := Aside0.mk (below_step (zz10) hb); have n1_ := Aside0.mk (hbox); have n2_ := Aside0.mk ((zz41 : w.heap.size ≤ gb400)); have n3_ := Aside0.mk ((zz41 : w.heap.size ≤ gb400)); clear HB; have HB := n0_; have BK400 := n1_; have GW400 := n2_; have GE400 := n3_; clear n0_ n1_ n2_ n3_; clear hb hbox hg; have hcz7_0 : w6.cell? ⟨gb400, 0, none⟩ = some (.slice A0_0 l0_0.length c0_0) := (blk_cell BK400.out 0).trans rfl; have hcz7_1 : w6.cell? ⟨gb400, 1, none⟩ = some (.slice A0_1 l0_1.length c0_1) := (blk_cell BK400.out 1).trans rfl; have hfz7_0 := blk_frozen BK400.out 0; have hfz7_1 := blk_frozen BK400.out 1; have p401 : 0 ≤ (a1 : Int) := of_decide_eq_true (zz17); have q401 : a1 < (l0_1.length : Int) := of_decide_eq_true (zz17); obtain ⟨ad401, e401, hx401_0, hx401_1, hx401_2, hx401_3⟩ := at_T41 HR0_1.out a1 p401 q401; cases e401; replace hx401_0 := (HB.out.cell (World.block_lt_of_cell? w _ hx401_0)).trans hx401_0; replace hx401_1 := (HB.out.cell (World.block_lt_of_cell? w _ hx401_1)).trans hx401_1; replace hx401_2 := (HB.out.cell (World.block_lt_of_cell? w _ hx401_2)).trans hx401_2; replace hx401_3 := (HB.out.cell (World.block_lt_of_cell? w _ hx401_3)).trans hx401_3; replace p401 := eq_true p401; replace q401 := eq_true q401) | ((with_reducible refine gate_dst (N := 5) rfl ?_); (((refine gate_guard (by rfl) ?_; dsimp only))); refine box_event ?hg (N := 5) ?hd (cs := #[.int .i64 0, .int .i64 0, .int .i64 0, .string (⟨#[]⟩ : ByteArray)]) (t := 41) ?hr ?_; (case hd => rfl); (case hg => rfl); (case hr => ((go_simp; done))); intro gb402 hg w8 hbox hb; have n0_ := Aside0.mk (blk_below (g := gb400) (o := .cells #[.slice A0_0 l0_0.length c0_0, .slice (some ad401) l0_1.length c0_1] 27 (0, 0)) (zz33) hb); have n1_ := Aside0.mk (below_step (zz10) hb); have n2_ := Aside0.mk (hbox); have n3_ := Aside0.mk ((zz41 : w.heap.size ≤ gb402)); have n4_ := Aside0.mk ((zz41 : w.heap.size ≤ gb402)); have n5_ := Aside0.mk ((by rw [hg]; exact Nat.ne_of_lt (blk_lt (g := gb400) (o := .cells #[.slice A0_0 l0_0.length c0_0, .slice (some ad401) l0_1.length c0_1] 27 (0, 0)) (zz33)) : gb400 ≠ gb402)); have n6_ := Aside0.mk ((by rw [hg]; exact Nat.ne_of_gt (blk_lt (g := gb400) (o := .cells #[.slice A0_0 l0_0.length c0_0, .slice (some ad401) l0_1.length c0_1] 27 (0, 0)) (zz33)) : gb402 ≠ gb400)); clear BK400; clear HB; have BK400 := n0_; have HB := n1_; have BK402 := n2_; have GW402 := n3_; have GE402 := n4_; have NB400_402 := n5_; have NB402_400 := n6_; clear n0_ n1_ n2_ n3_ n4_ n5_ n6_; clear hb hbox hg; have hnb9 := NB402_400.out; have hnc9 := NB400_402.out; have hcz10_0 : w8.cell? ⟨gb402, 0, none⟩ = some (.int .i64 0) := (blk_cell BK402.out 0).trans rfl; have hcz10_1 : w8.cell? ⟨gb402, 1, none⟩ = some (.int .i64 0) := (blk_cell BK402.out 1).trans rfl; have hcz10_2 : w8.cell? ⟨gb402, 2, none⟩ = some (.int .i64 0) := (blk_cell BK402.out 2).trans rfl; have hcz10_3 : w8.cell? ⟨gb402, 3, none⟩ = some (.string (⟨#[]⟩ : ByteArray)) := (blk_cell BK402.out 3).trans rfl; have hfz10_0 := blk_frozen BK402.out 0; have hfz10_1 := blk_frozen BK402.out 1; have hfz10_2 := blk_frozen BK402.out 2; have hfz10_3 := blk_frozen BK402.out 3))
   go_cut [6] (fun v6 wc => ∃ (kq : Nat) (x6_4 : Bool), v6 = .bool x6_4 ∧ Aside0 (R4_node.j0 kq x6_4 ((rd_T41 l0_1 a1).f0) ((rd_T41 l0_1 a1).f1) ((rd_T41 l0_1 a1).f2) ((rd_T41 l0_1 a1).f3) = some r) ∧ Aside0 (kq ≤ k) ∧ Aside0 (wc.heap[gb400]? = some (.cells #[(.slice A0_0 l0_0.length c0_0), (.slice (some ad401) l0_1.length c0_1)] 27 (0, 0))) ∧ Aside0 (wc.heap[gb402]? = some (.cells #[.int .i64 ((rd_T41 l0_1 a1).f0), .int .i64 ((rd_T41 l0_1 a1).f1), .int .i64 ((rd_T41 l0_1 a1).f2), .string ((rd_T41 l0_1 a1).f3)] 41 (0, 0))) ∧ Aside0 (Below w.heap.size w wc))
   case first =>
    have H := HC5.out
    clear HC5
    revert H; refine X.ite_d (c := 0 ≤ ((rd_T41 l0_1 a1).f1)) (fun c11b0 H => ?_) (fun c11b0 H => ?_)
    rotate_left
    rotate_left
    all_goals first
    | (have H' := Aside0.mk H
       clear H
       have hnbz1 := NB402_400.out
       have hncz1 := NB400_402.out
       have hczz1 : w8.cell? ⟨gb402, 0, none⟩ = some (.int .i64 0) := (blk_cell BK402.out 0).trans rfl
       have hczz2 : w8.cell? ⟨gb402, 1, none⟩ = some (.int .i64 0) := (blk_cell BK402.out 1).trans rfl
       have hczz3 : w8.cell? ⟨gb402, 2, none⟩ = some (.int .i64 0) := (blk_cell BK402.out 2).trans rfl
       have hczz4 : w8.cell? ⟨gb402, 3, none⟩ = some (.string (⟨#[]⟩ : ByteArray)) := (blk_cell BK402.out 3).trans rfl
       have hfzz1 := blk_frozen BK402.out 0
       have hfzz2 := blk_frozen BK402.out 1
       have hfzz3 := blk_frozen BK402.out 2
       have hfzz4 := blk_frozen BK402.out 3
       have hczz5 : w8.cell? ⟨gb400, 0, none⟩ = some (.slice A0_0 l0_0.length c0_0) := (blk_cell BK400.out 0).trans rfl
       have hczz6 : w8.cell? ⟨gb400, 1, none⟩ = some (.slice (some ad401) l0_1.length c0_1) := (blk_cell BK400.out 1).trans rfl
       have hfzz5 := blk_frozen BK400.out 0
       have hfzz6 := blk_frozen BK400.out 1
       go_wp2
       go_meet
       case rel => exact ⟨_, (decide (((rd_T41 l0_1 a1).f1) < (l0_0.length : Int))), (by rfl), H', ⟨zz38⟩, ⟨zz21⟩, ⟨by (with_reducible repeat (first | refine blk_drewN ?_ _ | refine blk_drew ?_ | refine blk_alloc ?_ _)); refine blk_put (cs := #[.int .i64 ((rd_T41 l0_1 a1).f0), .int .i64 ((rd_T41 l0_1 a1).f1), .int .i64 ((rd_T41 l0_1 a1).f2), .string (⟨#[]⟩ : ByteArray)]) ?_ 3 _ rfl; (with_reducible repeat (first | refine blk_drewN ?_ _ | refine blk_drew ?_ | refine blk_alloc ?_ _)); refine blk_put (cs := #[.int .i64 ((rd_T41 l0_1 a1).f0), .int .i64 ((rd_T41 l0_1 a1).f1), .int .i64 0, .string (⟨#[]⟩ : ByteArray)]) ?_ 2 _ rfl; (with_reducible repeat (first | refine blk_drewN ?_ _ | refine blk_drew ?_ | refine blk_alloc ?_ _)); refine blk_put (cs := #[.int .i64 ((rd_T41 l0_1 a1).f0), .int .i64 0, .int .i64 0, .string (⟨#[]⟩ : ByteArray)]) ?_ 1 _ rfl; (with_reducible repeat (first | refine blk_drewN ?_ _ | refine blk_drew ?_ | refine blk_alloc ?_ _)); refine blk_put (cs := #[.int .i64 0, .int .i64 0, .int .i64 0, .string (⟨#[]⟩ : ByteArray)]) ?_ 0 _ rfl; (with_reducible repeat (first | refine blk_drewN ?_ _ | refine blk_drew ?_ | refine blk_alloc ?_ _)); exact BK402.out⟩, ⟨by repeat (((with_reducible first | exact HB.out | refine below_set ?_ GE402.out)))⟩⟩)
    | (have H' := Aside0.mk H
       clear H
       have hnbz1 := NB402_400.out
       have hncz1 := NB400_402.out
       have hczz1 : w8.cell? ⟨gb402, 0, none⟩ = some (.int .i64 0) := (blk_cell BK402.out 0).trans rfl
       have hczz2 : w8.cell? ⟨gb402, 1, none⟩ = some (.int .i64 0) := (blk_cell BK402.out 1).trans rfl
       have hczz3 : w8.cell? ⟨gb402, 2, none⟩ = some (.int .i64 0) := (blk_cell BK402.out 2).trans rfl
       have hczz4 : w8.cell? ⟨gb402, 3, none⟩ = some (.string (⟨#[]⟩ : ByteArray)) := (blk_cell BK402.out 3).trans rfl
       have hfzz1 := blk_frozen BK402.out 0
       have hfzz2 := blk_frozen BK402.out 1
       have hfzz3 := blk_frozen BK402.out 2
       have hfzz4 := blk_frozen BK402.out 3
       go_wp2
       go_meet
       case rel => exact ⟨_, (false), (by rfl), H', ⟨by omega⟩, ⟨zz21⟩, ⟨by (with_reducible repeat (first | refine blk_drewN ?_ _ | refine blk_drew ?_ | refine blk_alloc ?_ _)); refine blk_put (cs := #[.int .i64 ((rd_T41 l0_1 a1).f0), .int .i64 ((rd_T41 l0_1 a1).f1), .int .i64 ((rd_T41 l0_1 a1).f2), .string (⟨#[]⟩ : ByteArray)]) ?_ 3 _ rfl; (with_reducible repeat (first | refine blk_drewN ?_ _ | refine blk_drew ?_ | refine blk_alloc ?_ _)); refine blk_put (cs := #[.int .i64 ((rd_T41 l0_1 a1).f0), .int .i64 ((rd_T41 l0_1 a1).f1), .int .i64 0, .string (⟨#[]⟩ : ByteArray)]) ?_ 2 _ rfl; (with_reducible repeat (first | refine blk_drewN ?_ _ | refine blk_drew ?_ | refine blk_alloc ?_ _)); refine blk_put (cs := #[.int .i64 ((rd_T41 l0_1 a1).f0), .int .i64 0, .int .i64 0, .string (⟨#[]⟩ : ByteArray)]) ?_ 1 _ rfl; (with_reducible repeat (first | refine blk_drewN ?_ _ | refine blk_drew ?_ | refine blk_alloc ?_ _)); refine blk_put (cs := #[.int .i64 0, .int .i64 0, .int .i64 0, .string (⟨#[]⟩ : ByteArray)]) ?_ 0 _ rfl; (with_reducible repeat (first | refine blk_drewN ?_ _ | refine blk_drew ?_ | refine blk_alloc ?_ _)); exact BK402.out⟩, ⟨by repeat (((with_reducible first | exact HB.out | refine below_set ?_ GE402.out)))⟩⟩)
   case rest =>
    clear HC5
    clear c3b0
    clear c4b0
    clear hcz10_0
    clear hcz10_1
    clear hcz10_2
    clear hcz10_3
    clear hcz7_0
    clear hcz7_1
    clear hfz10_0
    clear hfz10_1
    clear hfz10_2
    clear hfz10_3
    clear hfz7_0
    clear hfz7_1
    clear hx401_0
    clear hx401_1
    clear hx401_2
    clear hx401_3
    clear p401
    clear q401
    obtain ⟨kq, x6_4, rfl, HA, HJ4, BK400, BK402, HB⟩ := hcut
    cases kq with
    | zero => exact absurd HA.out (by simp [R4_node.j0])
    | succ kj4 =>
     have H := HA.out
     clear HA
     simp only [R4_node.j0] at H
     replace H := Option.bind_eq_some_iff.mp H
     obtain ⟨t403, A170, H⟩ := H
     have A17 := Aside0.mk A170
     clear A170
     revert H; refine X.ite_b (fun c18b0 c18b1 H => ?_) (fun c18b0 c18b1 H => ?_)
     by_cases c19 : x6_4 = true
     subst c19
     rw [if_pos rfl] at H
     rotate_left
     replace c19 := Bool.eq_false_iff.mpr c19
     subst c19
     rw [if_neg (show ¬ (false = true) by decide)] at H
     rotate_left
     revert H; refine X.ite_b (fun c28b0 c28b1 H => ?_) (fun c28b0 c28b1 H => ?_)
     by_cases c29 : x6_4 = true
     subst c29
     rw [if_pos rfl] at H
     rotate_left
     replace c29 := Bool.eq_false_iff.mpr c29
     subst c29
     rw [if_neg (show ¬ (false = true) by decide)] at H
     rotate_left
     revert H; refine X.ite_b (fun c38b0 c38b1 H => ?_) (fun c38b0 c38b1 H => ?_)
     revert H; refine X.ite_b (fun c39b0 c39b1 H => ?_) (fun c39b0 c39b1 H => ?_)
     revert H; refine X.ite_b (fun c40b0 c40b1 H => ?_) (fun c40b0 c40b1 H => ?_)
     rotate_left
     rotate_left
     rotate_left
     rotate_left
     all_goals
      obtain rfl := Option.some.inj H
      have hnbz1 := NB402_400.out
      have hncz1 := NB400_402.out
      have hczz1 : wc.cell? ⟨gb402, 0, none⟩ = some (.int .i64 ((rd_T41 l0_1 a1).f0)) := (blk_cell BK402.out 0).trans rfl
      have hczz2 : wc.cell? ⟨gb402, 1, none⟩ = some (.int .i64 ((rd_T41 l0_1 a1).f1)) := (blk_cell BK402.out 1).trans rfl
      have hczz3 : wc.cell? ⟨gb402, 2, none⟩ = some (.int .i64 ((rd_T41 l0_1 a1).f2)) := (blk_cell BK402.out 2).trans rfl
      have hczz4 : wc.cell? ⟨gb402, 3, none⟩ = some (.string ((rd_T41 l0_1 a1).f3)) := (blk_cell BK402.out 3).trans rfl
      have hfzz1 := blk_frozen BK402.out 0
      have hfzz2 := blk_frozen BK402.out 1
      have hfzz3 := blk_frozen BK402.out 2
      have hfzz4 := blk_frozen BK402.out 3
      go_wp2_with ((((with_reducible refine gate_callee (f := 65) rfl ?_); refine goesL_ (some 26) rfl rfl Tryz.func65 (by kernel_rfl) rfl #[.string ((rd_T41 l0_1 a1).f3)] rfl (zz12) ?_; (with_reducible refine (R1_Valid.calls kj4 ((rd_T41 l0_1 a1).f3) t403 _ A17.out).mono ?_); rintro e wz1 ⟨rfl, hb⟩; refine ⟨_, rfl, ?_⟩; have n0_ := Aside0.mk (blk_below (g := gb400) (o := .cells #[.slice A0_0 l0_0.length c0_0, .slice (some ad401) l0_1.length c0_1] 27 (0, 0)) (zz33) hb); have n1_ := Aside0.mk (blk_below (g := gb402) (o := .cells #[.int .i64 ((rd_T41 l0_1 a1).f0), .int .i64 ((rd_T41 l0_1 a1).f1), .int .i64 ((rd_T41 l0_1 a1).f2), .string ((rd_T41 l0_1 a1).f3)] 41 (0, 0)) (by (with_reducible repeat (first | refine blk_drewN ?_ _ | refine blk_drew ?_ | refine blk_alloc ?_ _)); exact BK402.out) hb); have n2_ := Aside0.mk (below_step (zz10) hb); clear BK400; clear BK402; clear HB; have BK400 := n0_; have BK402 := n1_; have HB := n2_; clear n0_ n1_ n2_; (clear hb); have hczz5 : wz1.cell? ⟨gb402, 0, none⟩ = some (.int .i64 ((rd_T41 l0_1 a1).f0)) := (blk_cell BK402.out 0).trans rfl; have hczz6 : wz1.cell? ⟨gb402, 1, none⟩ = some (.int .i64 ((rd_T41 l0_1 a1).f1)) := (blk_cell BK402.out 1).trans rfl; have hczz7 : wz1.cell? ⟨gb402, 2, none⟩ = some (.int .i64 ((rd_T41 l0_1 a1).f2)) := (blk_cell BK402.out 2).trans rfl; have hczz8 : wz1.cell? ⟨gb402, 3, none⟩ = some (.string ((rd_T41 l0_1 a1).f3)) := (blk_cell BK402.out 3).trans rfl; have hfzz5 := blk_frozen BK402.out 0; have hfzz6 := blk_frozen BK402.out 1; have hfzz7 := blk_frozen BK402.out 2; have hfzz8 := blk_frozen BK402.out 3)))
      go_ret
      exact ⟨by rfl, zz10⟩
  ·rw [if_neg c4] at H
   exact absurd H (by simp)
 ·rw [if_neg c3] at H
  exact absurd H (by simp)
def R4_around.l0 : Nat → Int → Int → List ByteArray → List (S41) → Option (Bool)
 | 0, _, _, _, _ => none
 | k + 1, x1, x2, x405000, x405001 => if x2 ≥ 0 then (if x2 = x1 then (some true) else (if 0 ≤ x2 then (if x2 < (x405001.length : Int) then (R4_around.l0 k x1 ((rd_T41 x405001 x2).f2) x405000 x405001) else (none)) else (none))) else (some false)
def R4_around.f (k : Nat) (l0_0 : List ByteArray) (l0_1 : List (S41)) (a1 : Int) (a2 : Int) : Option (Bool) := R4_around.l0 k a1 a2 l0_0 l0_1
theorem R4_around.mono_l : ∀ k, (∀ y0 y1 y2 y3, LeO (R4_around.l0 k y0 y1 y2 y3) (R4_around.l0 (k + 1) y0 y1 y2 y3))
 | 0 => fun _ _ _ _ r h => by simp [R4_around.l0] at h
 | k + 1 => by
  have ih0 := R4_around.mono_l k
  ·intro y0 y1 y2 y3
   unfold R4_around.l0
   exact leT
theorem R4_around.mono : ∀ a0 a1 a2 a3 k, LeO (R4_around.f k a0 a1 a2 a3) (R4_around.f (k + 1) a0 a1 a2 a3) := by
 intro a0 a1 a2 a3 k
 have ih0 := R4_around.mono_l k
 unfold R4_around.f
 exact leT
set_option maxHeartbeats 8000000 in
set_option maxRecDepth 100000 in
theorem R4_around.calls (k : Nat) (A0_0 : Option Addr) (c0_0 : Nat) (l0_0 : List ByteArray) (A0_1 : Option Addr) (c0_1 : Nat) (l0_1 : List (S41)) (a1 : Int) (a2 : Int) (r : Bool) (w : World) (hr0_0 : Kd.C Kd.string w A0_0 l0_0.length l0_0) (hc0_0 : l0_0.length ≤ c0_0) (hr0_1 : Kd.C k41 w A0_1 l0_1.length l0_1) (hc0_1 : l0_1.length ≤ c0_1) (h : R4_around.f k l0_0 l0_1 a1 a2 = some r) :
 Calls Tryz.prog 50 #[.agg #[.slice A0_0 l0_0.length c0_0, .slice A0_1 l0_1.length c0_1], .int .i64 a1, .int .i64 a2] w fun e w' => e = .returned (.bool r) ∧ Below w.heap.size w w' := by
 have hu27 := Tryz.underlying27
 have HR0_0 := Aside0.mk hr0_0
 have HC0_0 := Aside0.mk hc0_0
 clear hr0_0 hc0_0
 have HR0_1 := Aside0.mk hr0_1
 have HC0_1 := Aside0.mk hc0_1
 clear hr0_1 hc0_1
 have HB := Aside0.mk (Below.refl w.heap.size w)
 have H : (R4_around.l0 k a1 a2 l0_0 l0_1) = some r := h
 clear h
 have H' := Aside0.mk H
 clear H
 go_enter Tryz.func50, Tryz.ntmps50
 go_wp2_with ((((with_reducible refine gate_dst (N := 3) rfl ?_); refine box_event ?hg (N := 3) ?hd (cs := #[.slice A0_0 l0_0.length c0_0, .slice A0_1 l0_1.length c0_1]) (t := 27) ?hr ?_; (case hd => rfl); (case hg => rfl); (case hr => ((go_simp; done))); intro gb404 hg w4 hbox hb; have n0_ := Aside0.mk (below_step (zz10) hb); have n1_ := Aside0.mk (hbox); have n2_ := Aside0.mk ((zz41 : w.heap.size ≤ gb404)); have n3_ := Aside0.mk ((zz41 : w.heap.size ≤ gb404)); clear HB; have HB := n0_; have BK404 := n1_; have GW404 := n2_; have GE404 := n3_; clear n0_ n1_ n2_ n3_; clear hb hbox hg)))
 go_loopg [2] k (fun kq v2 w' => ∃ (x2_1 : Int), v2 = .int .i64 x2_1 ∧ Aside0 (R4_around.l0 kq a1 x2_1 l0_0 l0_1 = some r) ∧ Aside0 (kq ≤ k) ∧ Aside0 (w'.heap[gb404]? = some (.cells #[(.slice A0_0 l0_0.length c0_0), (.slice A0_1 l0_1.length c0_1)] 27 (0, 0))) ∧ Aside0 (Below w.heap.size w w'))
 case atStart => exact ⟨(a2), (by rfl), H', ⟨Nat.le_refl _⟩, ⟨by (with_reducible repeat (first | refine blk_drewN ?_ _ | refine blk_drew ?_ | refine blk_alloc ?_ _)); exact BK404.out⟩, ⟨zz10⟩⟩
 case round =>
  clear H'
  obtain ⟨x2_1, rfl, HA, HK1, BK404, HB⟩ := hrel
  cases gk with
  | zero => exact absurd HA.out (by simp [R4_around.l0])
  | succ k1 =>
   have H := HA.out
   clear HA
   simp only [R4_around.l0] at H
   revert H; refine X.ite_d (c := 0 ≤ x2_1) (fun c5b0 H => ?_) (fun c5b0 H => ?_)
   revert H; refine X.ite_b (fun c6b0 c6b1 H => ?_) (fun c6b0 c6b1 H => ?_)
   rotate_left
   by_cases c7 : 0 ≤ x2_1
   rw [if_pos c7] at H
   have c7b0 : decide (0 ≤ x2_1) = true := decide_eq_true c7
   clear c7
   by_cases c8 : x2_1 < (l0_1.length : Int)
   rw [if_pos c8] at H
   have c8b0 : decide (x2_1 < (l0_1.length : Int)) = true := decide_eq_true c8
   clear c8
   rotate_left
   ·rw [if_neg c8] at H
    exact absurd H (by simp)
   ·rw [if_neg c7] at H
    exact absurd H (by simp)
   ·obtain rfl := Option.some.inj H
    go_wp2
    go_ret
    exact ⟨by rfl, zz10⟩
   all_goals first
   | (obtain rfl := Option.some.inj H
      go_wp2
      go_ret
      exact ⟨by rfl, zz10⟩)
   | (have H' := Aside0.mk H
      clear H
      have hczz1 : wr.cell? ⟨gb404, 0, none⟩ = some (.slice A0_0 l0_0.length c0_0) := (blk_cell BK404.out 0).trans rfl
      have hczz2 : wr.cell? ⟨gb404, 1, none⟩ = some (.slice A0_1 l0_1.length c0_1) := (blk_cell BK404.out 1).trans rfl
      have hfzz1 := blk_frozen BK404.out 0
      have hfzz2 := blk_frozen BK404.out 1
      have pz1 : 0 ≤ (x2_1 : Int) := of_decide_eq_true (zz17)
      have qz1 : x2_1 < (l0_1.length : Int) := of_decide_eq_true (zz17)
      obtain ⟨adz1, ez1, hxz1, hxz2, hxz3, hxz4⟩ := at_T41 HR0_1.out x2_1 pz1 qz1
      cases ez1
      replace hxz1 := (HB.out.cell (World.block_lt_of_cell? w _ hxz1)).trans hxz1
      replace hxz2 := (HB.out.cell (World.block_lt_of_cell? w _ hxz2)).trans hxz2
      replace hxz3 := (HB.out.cell (World.block_lt_of_cell? w _ hxz3)).trans hxz3
      replace hxz4 := (HB.out.cell (World.block_lt_of_cell? w _ hxz4)).trans hxz4
      replace pz1 := eq_true pz1
      replace qz1 := eq_true qz1
      go_wp2
      go_roundg k1
      case measure => have := HK1.out; omega
      case rel => exact ⟨((rd_T41 l0_1 x2_1).f2), (by rfl), H', ⟨zz46⟩, ⟨by (with_reducible repeat (first | refine blk_drewN ?_ _ | refine blk_drew ?_ | refine blk_alloc ?_ _)); exact BK404.out⟩, ⟨zz10⟩⟩)
def R4_before.l0 : Nat → Int → Int → List ByteArray → List (S41) → Option (Int)
 | 0, _, _, _, _ => none
 | k + 1, x1, x5, x407000, x407001 => if 0 ≤ x1 then (if x1 < (x407001.length : Int) then (if x5 > ((rd_T41 x407001 x1).f2) then (if 0 ≤ x5 then (if x5 < (x407001.length : Int) then (if ((rd_T41 x407001 x5).f2) = ((rd_T41 x407001 x1).f2) then (some x5) else (R4_before.l0 k x1 (wrap64 (x5 - 1)) x407000 x407001)) else (none)) else (none)) else (some (-1))) else (none)) else (none)
def R4_before.f (k : Nat) (l0_0 : List ByteArray) (l0_1 : List (S41)) (a1 : Int) : Option (Int) := R4_before.l0 k a1 (wrap64 (a1 - 1)) l0_0 l0_1
theorem R4_before.mono_l : ∀ k, (∀ y0 y1 y2 y3, LeO (R4_before.l0 k y0 y1 y2 y3) (R4_before.l0 (k + 1) y0 y1 y2 y3))
 | 0 => fun _ _ _ _ r h => by simp [R4_before.l0] at h
 | k + 1 => by
  have ih0 := R4_before.mono_l k
  ·intro y0 y1 y2 y3
   unfold R4_before.l0
   exact leT
theorem R4_before.mono : ∀ a0 a1 a2 k, LeO (R4_before.f k a0 a1 a2) (R4_before.f (k + 1) a0 a1 a2) := by
 intro a0 a1 a2 k
 have ih0 := R4_before.mono_l k
 unfold R4_before.f
 exact leT
set_option maxHeartbeats 8000000 in
set_option maxRecDepth 100000 in
theorem R4_before.calls (k : Nat) (A0_0 : Option Addr) (c0_0 : Nat) (l0_0 : List ByteArray) (A0_1 : Option Addr) (c0_1 : Nat) (l0_1 : List (S41)) (a1 : Int) (r : Int) (w : World) (hr0_0 : Kd.C Kd.string w A0_0 l0_0.length l0_0) (hc0_0 : l0_0.length ≤ c0_0) (hr0_1 : Kd.C k41 w A0_1 l0_1.length l0_1) (hc0_1 : l0_1.length ≤ c0_1) (h : R4_before.f k l0_0 l0_1 a1 = some r) :
 Calls Tryz.prog 51 #[.agg #[.slice A0_0 l0_0.length c0_0, .slice A0_1 l0_1.length c0_1], .int .i64 a1] w fun e w' => e = .returned (.int .i64 r) ∧ Below w.heap.size w w' := by
 have hu27 := Tryz.underlying27
 have HR0_0 := Aside0.mk hr0_0
 have HC0_0 := Aside0.mk hc0_0
 clear hr0_0 hc0_0
 have HR0_1 := Aside0.mk hr0_1
 have HC0_1 := Aside0.mk hc0_1
 clear hr0_1 hc0_1
 have HB := Aside0.mk (Below.refl w.heap.size w)
 have H : (R4_before.l0 k a1 (wrap64 (a1 - 1)) l0_0 l0_1) = some r := h
 clear h
 have H' := Aside0.mk H
 clear H
 go_enter Tryz.func51, Tryz.ntmps51
 go_wp2_with ((((with_reducible refine gate_dst (N := 2) rfl ?_); refine box_event ?hg (N := 2) ?hd (cs := #[.slice A0_0 l0_0.length c0_0, .slice A0_1 l0_1.length c0_1]) (t := 27) ?hr ?_; (case hd => rfl); (case hg => rfl); (case hr => ((go_simp; done))); intro gb406 hg w3 hbox hb; have n0_ := Aside0.mk (below_step (zz10) hb); have n1_ := Aside0.mk (hbox); have n2_ := Aside0.mk ((zz41 : w.heap.size ≤ gb406)); have n3_ := Aside0.mk ((zz41 : w.heap.size ≤ gb406)); clear HB; have HB := n0_; have BK406 := n1_; have GW406 := n2_; have GE406 := n3_; clear n0_ n1_ n2_ n3_; clear hb hbox hg)))
 repeat (go_quiet (first | ((with_reducible refine gate_dst (N := 2) rfl ?_); refine box_event ?hg (N := 2) ?hd (cs := #[.slice A0_0 l0_0.length c0_0, .slice A0_1 l0_1.length c0_1]) (t := 27) ?hr ?_; (case hd => rfl); (case hg => rfl); (case hr => first | (go_simp; done) | (go_simp; rfl)); intro gb406 hg w3 hbox hb; have n0_ := Aside0.mk (below_step (zz2) hb); have n1_ := Aside0.mk (hbox); have n2_ := Aside0.mk ((zz35 : w.heap.size ≤ gb406)); have n3_ := Aside0.mk ((zz35 : w.heap.size ≤ gb406)); clear HB; have HB := n0_; have BK406 := n1_; have GW406 := n2_; have GE406 := n3_; clear n0_ n1_ n2_ n3_; clear hb hbox hg)); try go_wp2_with (first | ((with_reducible refine gate_dst (N := 2) rfl ?_); refine box_event ?hg (N := 2) ?hd (cs := #[.slice A0_0 l0_0.length c0_0, .slice A0_1 l0_1.length c0_1]) (t := 27) ?hr ?_; (case hd => rfl); (case hg => rfl); (case hr => first | (go_simp; done) | (go_simp; rfl)); intro gb406 hg w3 hbox hb; have n0_ := Aside0.mk (below_step (zz2) hb); have n1_ := Aside0.mk (hbox); have n2_ := Aside0.mk ((zz35 : w.heap.size ≤ gb406)); have n3_ := Aside0.mk ((zz35 : w.heap.size ≤ gb406)); clear HB; have HB := n0_; have BK406 := n1_; have GW406 := n2_; have GE406 := n3_; clear n0_ n1_ n2_ n3_; clear hb hbox hg)))
 go_loopg [5] k (fun kq v5 w' => ∃ (x5_1 : Int), v5 = .int .i64 x5_1 ∧ Aside0 (R4_before.l0 kq a1 x5_1 l0_0 l0_1 = some r) ∧ Aside0 (kq ≤ k) ∧ Aside0 (w'.heap[gb406]? = some (.cells #[(.slice A0_0 l0_0.length c0_0), (.slice A0_1 l0_1.length c0_1)] 27 (0, 0))) ∧ Aside0 (Below w.heap.size w w'))
 case atStart => exact ⟨(wrap64 (a1 - 1)), (by rfl), H', ⟨Nat.le_refl _⟩, ⟨by (with_reducible repeat (first | refine blk_drewN ?_ _ | refine blk_drew ?_ | refine blk_alloc ?_ _)); exact BK406.out⟩, ⟨zz10⟩⟩
 case round =>
  clear H'
  obtain ⟨x5_1, rfl, HA, HK1, BK406, HB⟩ := hrel
  cases gk with
  | zero => exact absurd HA.out (by simp [R4_before.l0])
  | succ k1 =>
   have H := HA.out
   clear HA
   simp only [R4_before.l0] at H
   by_cases c4 : 0 ≤ a1
   rw [if_pos c4] at H
   have c4b0 : decide (0 ≤ a1) = true := decide_eq_true c4
   clear c4
   by_cases c5 : a1 < (l0_1.length : Int)
   rw [if_pos c5] at H
   have c5b0 : decide (a1 < (l0_1.length : Int)) = true := decide_eq_true c5
   clear c5
   revert H; refine X.ite_d (c := ((rd_T41 l0_1 a1).f2) < x5_1) (fun c6b0 H => ?_) (fun c6b0 H => ?_)
   by_cases c7 : 0 ≤ x5_1
   rw [if_pos c7] at H
   have c7b0 : decide (0 ≤ x5_1) = true := decide_eq_true c7
   clear c7
   by_cases c8 : x5_1 < (l0_1.length : Int)
   rw [if_pos c8] at H
   have c8b0 : decide (x5_1 < (l0_1.length : Int)) = true := decide_eq_true c8
   clear c8
   revert H; refine X.ite_b (fun c9b0 c9b1 H => ?_) (fun c9b0 c9b1 H => ?_)
   rotate_left
   rotate_left
   ·rw [if_neg c8] at H
    exact absurd H (by simp)
   ·rw [if_neg c7] at H
    exact absurd H (by simp)
   rotate_left
   ·rw [if_neg c5] at H
    exact absurd H (by simp)
   ·rw [if_neg c4] at H
    exact absurd H (by simp)
   all_goals first
   | (obtain rfl := Option.some.inj H
      have hcz10_0 : wr.cell? ⟨gb406, 0, none⟩ = some (.slice A0_0 l0_0.length c0_0) := (blk_cell BK406.out 0).trans rfl
      have hcz10_1 : wr.cell? ⟨gb406, 1, none⟩ = some (.slice A0_1 l0_1.length c0_1) := (blk_cell BK406.out 1).trans rfl
      have hfz10_0 := blk_frozen BK406.out 0
      have hfz10_1 := blk_frozen BK406.out 1
      have pz1 : 0 ≤ (a1 : Int) := of_decide_eq_true (zz17)
      have qz1 : a1 < (l0_1.length : Int) := of_decide_eq_true (zz17)
      obtain ⟨adz1, ez1, hxz1, hxz2, hxz3, hxz4⟩ := at_T41 HR0_1.out a1 pz1 qz1
      cases ez1
      replace hxz1 := (HB.out.cell (World.block_lt_of_cell? w _ hxz1)).trans hxz1
      replace hxz2 := (HB.out.cell (World.block_lt_of_cell? w _ hxz2)).trans hxz2
      replace hxz3 := (HB.out.cell (World.block_lt_of_cell? w _ hxz3)).trans hxz3
      replace hxz4 := (HB.out.cell (World.block_lt_of_cell? w _ hxz4)).trans hxz4
      replace pz1 := eq_true pz1
      replace qz1 := eq_true qz1
      have pz2 : 0 ≤ (x5_1 : Int) := of_decide_eq_true (zz17)
      have qz2 : x5_1 < (l0_1.length : Int) := of_decide_eq_true (zz17)
      obtain ⟨adz2, ez2, hxz5, hxz6, hxz7, hxz8⟩ := at_T41 HR0_1.out x5_1 pz2 qz2
      obtain rfl : adz1 = adz2 := (by injection ez2)
      replace hxz5 := (HB.out.cell (World.block_lt_of_cell? w _ hxz5)).trans hxz5
      replace hxz6 := (HB.out.cell (World.block_lt_of_cell? w _ hxz6)).trans hxz6
      replace hxz7 := (HB.out.cell (World.block_lt_of_cell? w _ hxz7)).trans hxz7
      replace hxz8 := (HB.out.cell (World.block_lt_of_cell? w _ hxz8)).trans hxz8
      replace pz2 := eq_true pz2
      replace qz2 := eq_true qz2
      have pz3 : 0 ≤ (a1 : Int) := of_decide_eq_true (zz17)
      have qz3 : a1 < (l0_1.length : Int) := of_decide_eq_true (zz17)
      obtain ⟨adz3, ez3, hxz9, hxz10, hxz11, hxz12⟩ := at_T41 HR0_1.out a1 pz3 qz3
      obtain rfl : adz1 = adz3 := (by injection ez3)
      replace hxz9 := (HB.out.cell (World.block_lt_of_cell? w _ hxz9)).trans hxz9
      replace hxz10 := (HB.out.cell (World.block_lt_of_cell? w _ hxz10)).trans hxz10
      replace hxz11 := (HB.out.cell (World.block_lt_of_cell? w _ hxz11)).trans hxz11
      replace hxz12 := (HB.out.cell (World.block_lt_of_cell? w _ hxz12)).trans hxz12
      replace pz3 := eq_true pz3
      replace qz3 := eq_true qz3
      go_wp2
      repeat (go_quiet (fail); go_wp2)
      go_ret
      exact ⟨by rfl, zz14⟩)
   | (have H' := Aside0.mk H
      clear H
      have hczz1 : wr.cell? ⟨gb406, 0, none⟩ = some (.slice A0_0 l0_0.length c0_0) := (blk_cell BK406.out 0).trans rfl
      have hczz2 : wr.cell? ⟨gb406, 1, none⟩ = some (.slice A0_1 l0_1.length c0_1) := (blk_cell BK406.out 1).trans rfl
      have hfzz1 := blk_frozen BK406.out 0
      have hfzz2 := blk_frozen BK406.out 1
      have pz1 : 0 ≤ (a1 : Int) := of_decide_eq_true (zz17)
      have qz1 : a1 < (l0_1.length : Int) := of_decide_eq_true (zz17)
      obtain ⟨adz1, ez1, hxz1, hxz2, hxz3, hxz4⟩ := at_T41 HR0_1.out a1 pz1 qz1
      cases ez1
      replace hxz1 := (HB.out.cell (World.block_lt_of_cell? w _ hxz1)).trans hxz1
      replace hxz2 := (HB.out.cell (World.block_lt_of_cell? w _ hxz2)).trans hxz2
      replace hxz3 := (HB.out.cell (World.block_lt_of_cell? w _ hxz3)).trans hxz3
      replace hxz4 := (HB.out.cell (World.block_lt_of_cell? w _ hxz4)).trans hxz4
      replace pz1 := eq_true pz1
      replace qz1 := eq_true qz1
      have pz2 : 0 ≤ (x5_1 : Int) := of_decide_eq_true (zz17)
      have qz2 : x5_1 < (l0_1.length : Int) := of_decide_eq_true (zz17)
      obtain ⟨adz2, ez2, hxz5, hxz6, hxz7, hxz8⟩ := at_T41 HR0_1.out x5_1 pz2 qz2
      obtain rfl : adz1 = adz2 := (by injection ez2)
      replace hxz5 := (HB.out.cell (World.block_lt_of_cell? w _ hxz5)).trans hxz5
      replace hxz6 := (HB.out.cell (World.block_lt_of_cell? w _ hxz6)).trans hxz6
      replace hxz7 := (HB.out.cell (World.block_lt_of_cell? w _ hxz7)).trans hxz7
      replace hxz8 := (HB.out.cell (World.block_lt_of_cell? w _ hxz8)).trans hxz8
      replace pz2 := eq_true pz2
      replace qz2 := eq_true qz2
      have pz3 : 0 ≤ (a1 : Int) := of_decide_eq_true (zz17)
      have qz3 : a1 < (l0_1.length : Int) := of_decide_eq_true (zz17)
      obtain ⟨adz3, ez3, hxz9, hxz10, hxz11, hxz12⟩ := at_T41 HR0_1.out a1 pz3 qz3
      obtain rfl : adz1 = adz3 := (by injection ez3)
      replace hxz9 := (HB.out.cell (World.block_lt_of_cell? w _ hxz9)).trans hxz9
      replace hxz10 := (HB.out.cell (World.block_lt_of_cell? w _ hxz10)).trans hxz10
      replace hxz11 := (HB.out.cell (World.block_lt_of_cell? w _ hxz11)).trans hxz11
      replace hxz12 := (HB.out.cell (World.block_lt_of_cell? w _ hxz12)).trans hxz12
      replace pz3 := eq_true pz3
      replace qz3 := eq_true qz3
      go_wp2
      repeat (go_quiet (fail); go_wp2)
      go_roundg k1
      case measure => have := HK1.out; omega
      case rel => exact ⟨(wrap64 (x5_1 - 1)), (by rfl), H', ⟨zz46⟩, ⟨by (with_reducible repeat (refine blk_drewN ?_ _)); exact BK406.out⟩, ⟨zz14⟩⟩)
   | (obtain rfl := Option.some.inj H
      have hczz1 : wr.cell? ⟨gb406, 0, none⟩ = some (.slice A0_0 l0_0.length c0_0) := (blk_cell BK406.out 0).trans rfl
      have hczz2 : wr.cell? ⟨gb406, 1, none⟩ = some (.slice A0_1 l0_1.length c0_1) := (blk_cell BK406.out 1).trans rfl
      have hfzz1 := blk_frozen BK406.out 0
      have hfzz2 := blk_frozen BK406.out 1
      have pz1 : 0 ≤ (a1 : Int) := of_decide_eq_true (zz17)
      have qz1 : a1 < (l0_1.length : Int) := of_decide_eq_true (zz17)
      obtain ⟨adz1, ez1, hxz1, hxz2, hxz3, hxz4⟩ := at_T41 HR0_1.out a1 pz1 qz1
      cases ez1
      replace hxz1 := (HB.out.cell (World.block_lt_of_cell? w _ hxz1)).trans hxz1
      replace hxz2 := (HB.out.cell (World.block_lt_of_cell? w _ hxz2)).trans hxz2
      replace hxz3 := (HB.out.cell (World.block_lt_of_cell? w _ hxz3)).trans hxz3
      replace hxz4 := (HB.out.cell (World.block_lt_of_cell? w _ hxz4)).trans hxz4
      replace pz1 := eq_true pz1
      replace qz1 := eq_true qz1
      go_wp2
      repeat (go_quiet (fail); try go_wp2)
      go_ret
      exact ⟨by rfl, zz10⟩)
def R4_depth.l0 : Nat → Int → Int → List ByteArray → List (S41) → Option (Int)
 | 0, _, _, _, _ => none
 | k + 1, x1, x5, x411000, x411001 => if 0 ≤ x1 then (if x1 < (x411001.length : Int) then (if ((rd_T41 x411001 x1).f2) ≥ 0 then (R4_depth.l0 k ((rd_T41 x411001 x1).f2) (wrap64 (x5 + 1)) x411000 x411001) else (some x5)) else (none)) else (none)
def R4_depth.f (k : Nat) (l0_0 : List ByteArray) (l0_1 : List (S41)) (a1 : Int) : Option (Int) := R4_depth.l0 k a1 0 l0_0 l0_1
theorem R4_depth.mono_l : ∀ k, (∀ y0 y1 y2 y3, LeO (R4_depth.l0 k y0 y1 y2 y3) (R4_depth.l0 (k + 1) y0 y1 y2 y3))
 | 0 => fun _ _ _ _ r h => by simp [R4_depth.l0] at h
 | k + 1 => by
  have ih0 := R4_depth.mono_l k
  ·intro y0 y1 y2 y3
   unfold R4_depth.l0
   exact leT
theorem R4_depth.mono : ∀ a0 a1 a2 k, LeO (R4_depth.f k a0 a1 a2) (R4_depth.f (k + 1) a0 a1 a2) := by
 intro a0 a1 a2 k
 have ih0 := R4_depth.mono_l k
 unfold R4_depth.f
 exact leT
set_option maxHeartbeats 8000000 in
set_option maxRecDepth 100000 in
theorem R4_depth.calls (k : Nat) (A0_0 : Option Addr) (c0_0 : Nat) (l0_0 : List ByteArray) (A0_1 : Option Addr) (c0_1 : Nat) (l0_1 : List (S41)) (a1 : Int) (r : Int) (w : World) (hr0_0 : Kd.C Kd.string w A0_0 l0_0.length l0_0) (hc0_0 : l0_0.length ≤ c0_0) (hr0_1 : Kd.C k41 w A0_1 l0_1.length l0_1) (hc0_1 : l0_1.length ≤ c0_1) (h : R4_depth.f k l0_0 l0_1 a1 = some r) :
 Calls Tryz.prog 52 #[.agg #[.slice A0_0 l0_0.length c0_0, .slice A0_1 l0_1.length c0_1], .int .i64 a1] w fun e w' => e = .returned (.int .i64 r) ∧ Below w.heap.size w w' := by
 have hu27 := Tryz.underlying27
 have HR0_0 := Aside0.mk hr0_0
 have HC0_0 := Aside0.mk hc0_0
 clear hr0_0 hc0_0
 have HR0_1 := Aside0.mk hr0_1
 have HC0_1 := Aside0.mk hc0_1
 clear hr0_1 hc0_1
 have HB := Aside0.mk (Below.refl w.heap.size w)
 have H : (R4_depth.l0 k a1 0 l0_0 l0_1) = some r := h
 clear h
 have H' := Aside0.mk H
 clear H
 go_enter Tryz.func52, Tryz.ntmps52
 go_wp2_with ((((with_reducible refine gate_dst (N := 2) rfl ?_); refine box_event ?hg (N := 2) ?hd (cs := #[.slice A0_0 l0_0.length c0_0, .slice A0_1 l0_1.length c0_1]) (t := 27) ?hr ?_; (case hd => rfl); (case hg => rfl); (case hr => ((go_simp; done))); intro gb410 hg w3 hbox hb; have n0_ := Aside0.mk (below_step (zz10) hb); have n1_ := Aside0.mk (hbox); have n2_ := Aside0.mk ((zz41 : w.heap.size ≤ gb410)); have n3_ := Aside0.mk ((zz41 : w.heap.size ≤ gb410)); clear HB; have HB := n0_; have BK410 := n1_; have GW410 := n2_; have GE410 := n3_; clear n0_ n1_ n2_ n3_; clear hb hbox hg)))
 go_loopg [1, 5] k (fun kq v1 v5 w' => ∃ (x1_1 : Int) (x5_1 : Int), v1 = .int .i64 x1_1 ∧ v5 = .int .i64 x5_1 ∧ Aside0 (R4_depth.l0 kq x1_1 x5_1 l0_0 l0_1 = some r) ∧ Aside0 (kq ≤ k) ∧ Aside0 (w'.heap[gb410]? = some (.cells #[(.slice A0_0 l0_0.length c0_0), (.slice A0_1 l0_1.length c0_1)] 27 (0, 0))) ∧ Aside0 (Below w.heap.size w w'))
 case atStart => exact ⟨(a1), (0), (by rfl), (by rfl), H', ⟨Nat.le_refl _⟩, ⟨by (with_reducible repeat (first | refine blk_drewN ?_ _ | refine blk_drew ?_ | refine blk_alloc ?_ _)); exact BK410.out⟩, ⟨zz10⟩⟩
 case round =>
  clear H'
  obtain ⟨x1_1, x5_1, rfl, rfl, HA, HK1, BK410, HB⟩ := hrel
  cases gk with
  | zero => exact absurd HA.out (by simp [R4_depth.l0])
  | succ k1 =>
   have H := HA.out
   clear HA
   simp only [R4_depth.l0] at H
   by_cases c4 : 0 ≤ x1_1
   rw [if_pos c4] at H
   have c4b0 : decide (0 ≤ x1_1) = true := decide_eq_true c4
   clear c4
   by_cases c5 : x1_1 < (l0_1.length : Int)
   rw [if_pos c5] at H
   have c5b0 : decide (x1_1 < (l0_1.length : Int)) = true := decide_eq_true c5
   clear c5
   revert H; refine X.ite_d (c := 0 ≤ ((rd_T41 l0_1 x1_1).f2)) (fun c6b0 H => ?_) (fun c6b0 H => ?_)
   rotate_left
   rotate_left
   ·rw [if_neg c5] at H
    exact absurd H (by simp)
   ·rw [if_neg c4] at H
    exact absurd H (by simp)
   all_goals first
   | (have H' := Aside0.mk H
      clear H
      have hcz7_0 : wr.cell? ⟨gb410, 0, none⟩ = some (.slice A0_0 l0_0.length c0_0) := (blk_cell BK410.out 0).trans rfl
      have hcz7_1 : wr.cell? ⟨gb410, 1, none⟩ = some (.slice A0_1 l0_1.length c0_1) := (blk_cell BK410.out 1).trans rfl
      have hfz7_0 := blk_frozen BK410.out 0
      have hfz7_1 := blk_frozen BK410.out 1
      have pz1 : 0 ≤ (x1_1 : Int) := of_decide_eq_true (zz17)
      have qz1 : x1_1 < (l0_1.length : Int) := of_decide_eq_true (zz17)
      obtain ⟨adz1, ez1, hxz1, hxz2, hxz3, hxz4⟩ := at_T41 HR0_1.out x1_1 pz1 qz1
      cases ez1
      replace hxz1 := (HB.out.cell (World.block_lt_of_cell? w _ hxz1)).trans hxz1
      replace hxz2 := (HB.out.cell (World.block_lt_of_cell? w _ hxz2)).trans hxz2
      replace hxz3 := (HB.out.cell (World.block_lt_of_cell? w _ hxz3)).trans hxz3
      replace hxz4 := (HB.out.cell (World.block_lt_of_cell? w _ hxz4)).trans hxz4
      replace pz1 := eq_true pz1
      replace qz1 := eq_true qz1
      have pz2 : 0 ≤ (x1_1 : Int) := of_decide_eq_true (zz17)
      have qz2 : x1_1 < (l0_1.length : Int) := of_decide_eq_true (zz17)
      obtain ⟨adz2, ez2, hxz5, hxz6, hxz7, hxz8⟩ := at_T41 HR0_1.out x1_1 pz2 qz2
      obtain rfl : adz1 = adz2 := (by injection ez2)
      replace hxz5 := (HB.out.cell (World.block_lt_of_cell? w _ hxz5)).trans hxz5
      replace hxz6 := (HB.out.cell (World.block_lt_of_cell? w _ hxz6)).trans hxz6
      replace hxz7 := (HB.out.cell (World.block_lt_of_cell? w _ hxz7)).trans hxz7
      replace hxz8 := (HB.out.cell (World.block_lt_of_cell? w _ hxz8)).trans hxz8
      replace pz2 := eq_true pz2
      replace qz2 := eq_true qz2
      go_wp2
      go_roundg k1
      case measure => have := HK1.out; omega
      case rel => exact ⟨((rd_T41 l0_1 x1_1).f2), (wrap64 (x5_1 + 1)), (by rfl), (by rfl), H', ⟨zz46⟩, ⟨by (with_reducible repeat (first | refine blk_drewN ?_ _ | refine blk_drew ?_ | refine blk_alloc ?_ _)); exact BK410.out⟩, ⟨zz10⟩⟩)
   | (obtain rfl := Option.some.inj H
      have hczz1 : wr.cell? ⟨gb410, 0, none⟩ = some (.slice A0_0 l0_0.length c0_0) := (blk_cell BK410.out 0).trans rfl
      have hczz2 : wr.cell? ⟨gb410, 1, none⟩ = some (.slice A0_1 l0_1.length c0_1) := (blk_cell BK410.out 1).trans rfl
      have hfzz1 := blk_frozen BK410.out 0
      have hfzz2 := blk_frozen BK410.out 1
      have pz1 : 0 ≤ (x1_1 : Int) := of_decide_eq_true (zz17)
      have qz1 : x1_1 < (l0_1.length : Int) := of_decide_eq_true (zz17)
      obtain ⟨adz1, ez1, hxz1, hxz2, hxz3, hxz4⟩ := at_T41 HR0_1.out x1_1 pz1 qz1
      cases ez1
      replace hxz1 := (HB.out.cell (World.block_lt_of_cell? w _ hxz1)).trans hxz1
      replace hxz2 := (HB.out.cell (World.block_lt_of_cell? w _ hxz2)).trans hxz2
      replace hxz3 := (HB.out.cell (World.block_lt_of_cell? w _ hxz3)).trans hxz3
      replace hxz4 := (HB.out.cell (World.block_lt_of_cell? w _ hxz4)).trans hxz4
      replace pz1 := eq_true pz1
      replace qz1 := eq_true qz1
      go_wp2
      go_ret
      exact ⟨by rfl, zz10⟩)
end Go.Proofs.YtlhhhlimjajnlaaGreat.Q
end
