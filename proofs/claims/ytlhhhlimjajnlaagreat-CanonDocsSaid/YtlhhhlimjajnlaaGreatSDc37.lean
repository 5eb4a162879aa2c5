/- Parts of the proof of canonDocs_holds, kept and merged by a program of mine (wip/tools/slim.py) out of my texts: Q20 -/
import Derived.Test.YtlhhhlimjajnlaaGreatSDc0
import Derived.Test.YtlhhhlimjajnlaaGreatSDc4
section
namespace Go.Proofs.YtlhhhlimjajnlaaGreat.X
end Go.Proofs.YtlhhhlimjajnlaaGreat.X
namespace Go.Proofs.YtlhhhlimjajnlaaGreat.Q
open Go.RowKit Go.Proofs.YtlhhhlimjajnlaaGreatW.PrintWords Go.Proofs.YtlhhhlimjajnlaaGreatW.PrintLast Go.Proofs.YtlhhhlimjajnlaaGreatW.PrintMore
attribute [local go_sem] max2_int min2_int max_two min_two max_three min_three max_four min_four   
open Go.Proofs.YtlhhhlimjajnlaaGreat.X
set_option linter.unusedVariables false
set_option linter.unusedSimpArgs false
def R4_around.l0 : Nat → Int → Int → List ByteArray → List (S41) → Option (Bool)
 | 0, _, _, _, _ => none
 | k + 1, x1, x2, x405000, x405001 => if x2 ≥ 0 then (if x2 = x1 then (some true) else (if 0 ≤ x2 then (if x2 < (x405001.length : Int) then (R4_around.l0 k x1 ((rd_T41 x405001 x2).f2) x405000 x405001) else (none)) else (none))) else (some false)
def R4_around.f (k : Nat) (l0_0 : List ByteArray) (l0_1 : List (S41)) (a1 : Int) (a2 : Int) : Option (Bool) := R4_around.l0 k a1 a2 l0_0 l0_1
set_option maxHeartbeats 8000000 in
set_option maxRecDepth 100000 in
theorem R4_around.calls (k : Nat) (A0_0 : Option Addr) (c0_0 : Nat) (l0_0 : List ByteArray) (A0_1 : Option Addr) (c0_1 : Nat) (l0_1 : List (S41)) (a1 : Int) (a2 : Int) (r : Bool) (w : World) (hr0_0 : Kd.C Kd.string w A0_0 l0_0.length l0_0) (hc0_0 : l0_0.length ≤ c0_0) (hr0_1 : Kd.C k41 w A0_1 l0_1.length l0_1) (hc0_1 : l0_1.length ≤ c0_1) (h : R4_around.f k l0_0 l0_1 a1 a2 = some r) :
 Calls Tryz.prog 50 #[.agg #[.slice A0_0 l0_0.length c0_0, .slice A0_1 l0_1.length c0_1], .int .i64 a1, .int .i64 a2] w fun e w' => e = .returned (.bool r) ∧ Below w.heap.size w w' := by
 have hu27 := Tryz.underlying27
 have HR0_0 := Aside0.mk hr0_0
 have HC0_0 := Aside0.mk hc0_0
 clear hr0_0 hc0_0
 have HR0_1 := Aside0.mk hr0_1
 have HC0_1 := Aside0.mk hc0_1
 clear hr0_1 hc0_1
 have HB := Aside0.mk (Below.refl w.heap.size w)
 have H : (R4_around.l0 k a1 a2 l0_0 l0_1) = some r := h
 clear h
 have H' := Aside0.mk H
 clear H
 go_enter Tryz.func50, Tryz.ntmps50
 go_wp2_with (first | ((with_reducible refine gate_dst (N := 3) rfl ?_); refine box_event ?hg (N := 3) ?hd (cs := #[.slice A0_0 l0_0.length c0_0, .slice A0_1 l0_1.length c0_1]) (t := 27) ?hr ?_; (case hd => rfl); (case hg => rfl); (case hr => first | (go_simp; done) | (go_simp; rfl)); intro gb404 hg w4 hbox hb; have n0_ := Aside0.mk (below_step (zz0) hb); have n1_ := Aside0.mk (hbox); have n2_ := Aside0.mk ((zz21 : w.heap.size ≤ gb404)); have n3_ := Aside0.mk ((zz21 : w.heap.size ≤ gb404)); clear HB; have HB := n0_; have BK404 := n1_; have GW404 := n2_; have GE404 := n3_; clear n0_ n1_ n2_ n3_; clear hb hbox hg))
 go_loopg [2] k (fun kq v2 w' => ∃ (x2_1 : Int), v2 = .int .i64 x2_1 ∧ Aside0 (R4_around.l0 kq a1 x2_1 l0_0 l0_1 = some r) ∧ Aside0 (kq ≤ k) ∧ Aside0 (w'.heap[gb404]? = some (.cells #[(.slice A0_0 l0_0.length c0_0), (.slice A0_1 l0_1.length c0_1)] 27 (0, 0))) ∧ Aside0 (Below w.heap.size w w'))
 case atStart => exact ⟨(a2), (zz3), H', ⟨Nat.le_refl _⟩, ⟨by (with_reducible repeat (first | refine blk_drewN ?_ _ | refine blk_drew ?_ | refine blk_alloc ?_ _)); exact BK404.out⟩, ⟨zz16⟩⟩
 case round =>
  clear H'
  try clear p2
  obtain ⟨x2_1, rfl, HA, HK1, BK404, HB⟩ := hrel
  cases gk with
  | zero => exact absurd HA.out (by simp [R4_around.l0])
  | succ k1 =>
   have H := HA.out
   clear HA
   simp only [R4_around.l0] at H
   by_cases c5 : x2_1 ≥ 0
   ·rw [if_pos c5] at H
    have c5b0 : decide (0 ≤ x2_1) = true := decide_eq_true c5
    clear c5
    by_cases c6 : x2_1 = a1
    ·rw [if_pos c6] at H
     have c6b0 : (x2_1 == a1) = true := beq_iff_eq.mpr c6
     have c6b1 : (x2_1 != a1) = false := bne_eq_false_iff_eq.mpr c6
     clear c6
     obtain rfl := Option.some.inj H
     go_wp2
     go_ret
     exact ⟨zz9, zz16⟩
    ·rw [if_neg c6] at H
     have c6b0 : (x2_1 == a1) = false := beq_eq_false_iff_ne.mpr c6
     have c6b1 : (x2_1 != a1) = true := bne_iff_ne.mpr c6
     by_cases c7 : 0 ≤ x2_1
     ·rw [if_pos c7] at H
      have c7b0 : decide (0 ≤ x2_1) = true := decide_eq_true c7
      clear c7
      by_cases c8 : x2_1 < (l0_1.length : Int)
      ·rw [if_pos c8] at H
       have c8b0 : decide (x2_1 < (l0_1.length : Int)) = true := decide_eq_true c8
       clear c8
       have H' := Aside0.mk H
       clear H
       have hcz9_0 : wr.cell? ⟨gb404, 0, none⟩ = some (.slice A0_0 l0_0.length c0_0) := (blk_cell BK404.out 0).trans rfl
       have hcz9_1 : wr.cell? ⟨gb404, 1, none⟩ = some (.slice A0_1 l0_1.length c0_1) := (blk_cell BK404.out 1).trans rfl
       have hfz9_0 := blk_frozen BK404.out 0
       have hfz9_1 := blk_frozen BK404.out 1
       have p405 : 0 ≤ (x2_1 : Int) := of_decide_eq_true (zz6)
       have q405 : x2_1 < (l0_1.length : Int) := of_decide_eq_true (zz6)
       obtain ⟨ad405, e405, hx405_0, hx405_1, hx405_2, hx405_3⟩ := at_T41 HR0_1.out x2_1 p405 q405
       cases e405
       replace hx405_0 := (HB.out.cell (World.block_lt_of_cell? w _ hx405_0)).trans hx405_0
       replace hx405_1 := (HB.out.cell (World.block_lt_of_cell? w _ hx405_1)).trans hx405_1
       replace hx405_2 := (HB.out.cell (World.block_lt_of_cell? w _ hx405_2)).trans hx405_2
       replace hx405_3 := (HB.out.cell (World.block_lt_of_cell? w _ hx405_3)).trans hx405_3
       replace p405 := eq_true p405
       replace q405 := eq_true q405
       go_wp2
       go_roundg k1
       case measure => have := HK1.out; omega
       case rel => exact ⟨((rd_T41 l0_1 x2_1).f2), (zz3), H', ⟨zz22⟩, ⟨by (with_reducible repeat (first | refine blk_drewN ?_ _ | refine blk_drew ?_ | refine blk_alloc ?_ _)); exact BK404.out⟩, ⟨zz16⟩⟩
      ·rw [if_neg c8] at H
       exact absurd H (by simp)
     ·rw [if_neg c7] at H
      exact absurd H (by simp)
   ·rw [if_neg c5] at H
    have c5b0 : decide (0 ≤ x2_1) = false := decide_eq_false c5
    clear c5
    obtain rfl := Option.some.inj H
    go_wp2
    go_ret
    exact ⟨zz9, zz16⟩
def R4_before.l0 : Nat → Int → Int → List ByteArray → List (S41) → Option (Int)
 | 0, _, _, _, _ => none
 | k + 1, x1, x5, x407000, x407001 => if 0 ≤ x1 then (if x1 < (x407001.length : Int) then (if x5 > ((rd_T41 x407001 x1).f2) then (if 0 ≤ x5 then (if x5 < (x407001.length : Int) then (if ((rd_T41 x407001 x5).f2) = ((rd_T41 x407001 x1).f2) then (some x5) else (R4_before.l0 k x1 (wrap64 (x5 - 1)) x407000 x407001)) else (none)) else (none)) else (some (-1))) else (none)) else (none)
def R4_before.f (k : Nat) (l0_0 : List ByteArray) (l0_1 : List (S41)) (a1 : Int) : Option (Int) := R4_before.l0 k a1 (wrap64 (a1 - 1)) l0_0 l0_1
set_option maxHeartbeats 8000000 in
set_option maxRecDepth 100000 in
theorem R4_before.calls (k : Nat) (A0_0 : Option Addr) (c0_0 : Nat) (l0_0 : List ByteArray) (A0_1 : Option Addr) (c0_1 : Nat) (l0_1 : List (S41)) (a1 : Int) (r : Int) (w : World) (hr0_0 : Kd.C Kd.string w A0_0 l0_0.length l0_0) (hc0_0 : l0_0.length ≤ c0_0) (hr0_1 : Kd.C k41 w A0_1 l0_1.length l0_1) (hc0_1 : l0_1.length ≤ c0_1) (h : R4_before.f k l0_0 l0_1 a1 = some r) :
 Calls Tryz.prog 51 #[.agg #[.slice A0_0 l0_0.length c0_0, .slice A0_1 l0_1.length c0_1], .int .i64 a1] w fun e w' => e = .returned (.int .i64 r) ∧ Below w.heap.size w w' := by
 have hu27 := Tryz.underlying27
 have HR0_0 := Aside0.mk hr0_0
 have HC0_0 := Aside0.mk hc0_0
 clear hr0_0 hc0_0
 have HR0_1 := Aside0.mk hr0_1
 have HC0_1 := Aside0.mk hc0_1
 clear hr0_1 hc0_1
 have HB := Aside0.mk (Below.refl w.heap.size w)
 have H : (R4_before.l0 k a1 (wrap64 (a1 - 1)) l0_0 l0_1) = some r := h
 clear h
 have H' := Aside0.mk H
 clear H
 go_enter Tryz.func51, Tryz.ntmps51
 go_wp2_with (first | ((with_reducible refine gate_dst (N := 2) rfl ?_); refine box_event ?hg (N := 2) ?hd (cs := #[.slice A0_0 l0_0.length c0_0, .slice A0_1 l0_1.length c0_1]) (t := 27) ?hr ?_; (case hd => rfl); (case hg => rfl); (case hr => first | (go_simp; done) | (go_simp; rfl)); intro gb406 hg w3 hbox hb; have n0_ := Aside0.mk (below_step (zz0) hb); have n1_ := Aside0.mk (hbox); have n2_ := Aside0.mk ((zz21 : w.heap.size ≤ gb406)); have n3_ := Aside0.mk ((zz21 : w.heap.size ≤ gb406)); clear HB; have HB := n0_; have BK406 := n1_; have GW406 := n2_; have GE406 := n3_; clear n0_ n1_ n2_ n3_; clear hb hbox hg))
 repeat (go_quiet (first | ((with_reducible refine gate_dst (N := 2) rfl ?_); refine box_event ?hg (N := 2) ?hd (cs := #[.slice A0_0 l0_0.length c0_0, .slice A0_1 l0_1.length c0_1]) (t := 27) ?hr ?_; (case hd => rfl); (case hg => rfl); (case hr => first | (go_simp; done) | (go_simp; rfl)); intro gb406 hg w3 hbox hb; have n0_ := Aside0.mk (below_step (zz0) hb); have n1_ := Aside0.mk (hbox); have n2_ := Aside0.mk ((zz21 : w.heap.size ≤ gb406)); have n3_ := Aside0.mk ((zz21 : w.heap.size ≤ gb406)); clear HB; have HB := n0_; have BK406 := n1_; have GW406 := n2_; have GE406 := n3_; clear n0_ n1_ n2_ n3_; clear hb hbox hg)); try go_wp2_with (first | ((with_reducible refine gate_dst (N := 2) rfl ?_); refine box_event ?hg (N := 2) ?hd (cs := #[.slice A0_0 l0_0.length c0_0, .slice A0_1 l0_1.length c0_1]) (t := 27) ?hr ?_; (case hd => rfl); (case hg => rfl); (case hr => first | (go_simp; done) | (go_simp; rfl)); intro gb406 hg w3 hbox hb; have n0_ := Aside0.mk (below_step (zz0) hb); have n1_ := Aside0.mk (hbox); have n2_ := Aside0.mk ((zz21 : w.heap.size ≤ gb406)); have n3_ := Aside0.mk ((zz21 : w.heap.size ≤ gb406)); clear HB; have HB := n0_; have BK406 := n1_; have GW406 := n2_; have GE406 := n3_; clear n0_ n1_ n2_ n3_; clear hb hbox hg)))
 go_loopg [5] k (fun kq v5 w' => ∃ (x5_1 : Int), v5 = .int .i64 x5_1 ∧ Aside0 (R4_before.l0 kq a1 x5_1 l0_0 l0_1 = some r) ∧ Aside0 (kq ≤ k) ∧ Aside0 (w'.heap[gb406]? = some (.cells #[(.slice A0_0 l0_0.length c0_0), (.slice A0_1 l0_1.length c0_1)] 27 (0, 0))) ∧ Aside0 (Below w.heap.size w w'))
 case atStart => exact ⟨(wrap64 (a1 - 1)), (zz3), H', ⟨Nat.le_refl _⟩, ⟨by (with_reducible repeat (first | refine blk_drewN ?_ _ | refine blk_drew ?_ | refine blk_alloc ?_ _)); exact BK406.out⟩, ⟨zz17⟩⟩
 case round =>
  clear H'
  try clear p2
  obtain ⟨x5_1, rfl, HA, HK1, BK406, HB⟩ := hrel
  cases gk with
  | zero => exact absurd HA.out (by simp [R4_before.l0])
  | succ k1 =>
   have H := HA.out
   clear HA
   simp only [R4_before.l0] at H
   by_cases c4 : 0 ≤ a1
   ·rw [if_pos c4] at H
    have c4b0 : decide (0 ≤ a1) = true := decide_eq_true c4
    clear c4
    by_cases c5 : a1 < (l0_1.length : Int)
    ·rw [if_pos c5] at H
     have c5b0 : decide (a1 < (l0_1.length : Int)) = true := decide_eq_true c5
     clear c5
     by_cases c6 : x5_1 > ((rd_T41 l0_1 a1).f2)
     ·rw [if_pos c6] at H
      have c6b0 : decide (((rd_T41 l0_1 a1).f2) < x5_1) = true := decide_eq_true c6
      clear c6
      by_cases c7 : 0 ≤ x5_1
      ·rw [if_pos c7] at H
       have c7b0 : decide (0 ≤ x5_1) = true := decide_eq_true c7
       clear c7
       by_cases c8 : x5_1 < (l0_1.length : Int)
       ·rw [if_pos c8] at H
        have c8b0 : decide (x5_1 < (l0_1.length : Int)) = true := decide_eq_true c8
        clear c8
        by_cases c9 : ((rd_T41 l0_1 x5_1).f2) = ((rd_T41 l0_1 a1).f2)
        ·rw [if_pos c9] at H
         have c9b0 : (((rd_T41 l0_1 x5_1).f2) == ((rd_T41 l0_1 a1).f2)) = true := beq_iff_eq.mpr c9
         have c9b1 : (((rd_T41 l0_1 x5_1).f2) != ((rd_T41 l0_1 a1).f2)) = false := bne_eq_false_iff_eq.mpr c9
         clear c9
         obtain rfl := Option.some.inj H
         have hcz10_0 : wr.cell? ⟨gb406, 0, none⟩ = some (.slice A0_0 l0_0.length c0_0) := (blk_cell BK406.out 0).trans rfl
         have hcz10_1 : wr.cell? ⟨gb406, 1, none⟩ = some (.slice A0_1 l0_1.length c0_1) := (blk_cell BK406.out 1).trans rfl
         have hfz10_0 := blk_frozen BK406.out 0
         have hfz10_1 := blk_frozen BK406.out 1
         have p407 : 0 ≤ (a1 : Int) := of_decide_eq_true (zz6)
         have q407 : a1 < (l0_1.length : Int) := of_decide_eq_true (zz6)
         obtain ⟨ad407, e407, hx407_0, hx407_1, hx407_2, hx407_3⟩ := at_T41 HR0_1.out a1 p407 q407
         cases e407
         replace hx407_0 := (HB.out.cell (World.block_lt_of_cell? w _ hx407_0)).trans hx407_0
         replace hx407_1 := (HB.out.cell (World.block_lt_of_cell? w _ hx407_1)).trans hx407_1
         replace hx407_2 := (HB.out.cell (World.block_lt_of_cell? w _ hx407_2)).trans hx407_2
         replace hx407_3 := (HB.out.cell (World.block_lt_of_cell? w _ hx407_3)).trans hx407_3
         replace p407 := eq_true p407
         replace q407 := eq_true q407
         have p408 : 0 ≤ (x5_1 : Int) := of_decide_eq_true (zz6)
         have q408 : x5_1 < (l0_1.length : Int) := of_decide_eq_true (zz6)
         obtain ⟨ad408, e408, hx408_0, hx408_1, hx408_2, hx408_3⟩ := at_T41 HR0_1.out x5_1 p408 q408
         obtain rfl : ad407 = ad408 := (by injection e408)
         replace hx408_0 := (HB.out.cell (World.block_lt_of_cell? w _ hx408_0)).trans hx408_0
         replace hx408_1 := (HB.out.cell (World.block_lt_of_cell? w _ hx408_1)).trans hx408_1
         replace hx408_2 := (HB.out.cell (World.block_lt_of_cell? w _ hx408_2)).trans hx408_2
         replace hx408_3 := (HB.out.cell (World.block_lt_of_cell? w _ hx408_3)).trans hx408_3
         replace p408 := eq_true p408
         replace q408 := eq_true q408
         have p409 : 0 ≤ (a1 : Int) := of_decide_eq_true (zz6)
         have q409 : a1 < (l0_1.length : Int) := of_decide_eq_true (zz6)
         obtain ⟨ad409, e409, hx409_0, hx409_1, hx409_2, hx409_3⟩ := at_T41 HR0_1.out a1 p409 q409
         obtain rfl : ad407 = ad409 := (by injection e409)
         replace hx409_0 := (HB.out.cell (World.block_lt_of_cell? w _ hx409_0)).trans hx409_0
         replace hx409_1 := (HB.out.cell (World.block_lt_of_cell? w _ hx409_1)).trans hx409_1
         replace hx409_2 := (HB.out.cell (World.block_lt_of_cell? w _ hx409_2)).trans hx409_2
         replace hx409_3 := (HB.out.cell (World.block_lt_of_cell? w _ hx409_3)).trans hx409_3
         replace p409 := eq_true p409
         replace q409 := eq_true q409
         go_wp2
         repeat (go_quiet (fail); try go_wp2)
         go_ret
         exact ⟨zz9, zz17⟩
        ·rw [if_neg c9] at H
         have c9b0 : (((rd_T41 l0_1 x5_1).f2) == ((rd_T41 l0_1 a1).f2)) = false := beq_eq_false_iff_ne.mpr c9
         have c9b1 : (((rd_T41 l0_1 x5_1).f2) != ((rd_T41 l0_1 a1).f2)) = true := bne_iff_ne.mpr c9
         have H' := Aside0.mk H
         clear H
         have hcz11_0 : wr.cell? ⟨gb406, 0, none⟩ = some (.slice A0_0 l0_0.length c0_0) := (blk_cell BK406.out 0).trans rfl
         have hcz11_1 : wr.cell? ⟨gb406, 1, none⟩ = some (.slice A0_1 l0_1.length c0_1) := (blk_cell BK406.out 1).trans rfl
         have hfz11_0 := blk_frozen BK406.out 0
         have hfz11_1 := blk_frozen BK406.out 1
         have p407 : 0 ≤ (a1 : Int) := of_decide_eq_true (zz6)
         have q407 : a1 < (l0_1.length : Int) := of_decide_eq_true (zz6)
         obtain ⟨ad407, e407, hx407_0, hx407_1, hx407_2, hx407_3⟩ := at_T41 HR0_1.out a1 p407 q407
         cases e407
         replace hx407_0 := (HB.out.cell (World.block_lt_of_cell? w _ hx407_0)).trans hx407_0
         replace hx407_1 := (HB.out.cell (World.block_lt_of_cell? w _ hx407_1)).trans hx407_1
         replace hx407_2 := (HB.out.cell (World.block_lt_of_cell? w _ hx407_2)).trans hx407_2
         replace hx407_3 := (HB.out.cell (World.block_lt_of_cell? w _ hx407_3)).trans hx407_3
         replace p407 := eq_true p407
         replace q407 := eq_true q407
         have p408 : 0 ≤ (x5_1 : Int) := of_decide_eq_true (zz6)
         have q408 : x5_1 < (l0_1.length : Int) := of_decide_eq_true (zz6)
         obtain ⟨ad408, e408, hx408_0, hx408_1, hx408_2, hx408_3⟩ := at_T41 HR0_1.out x5_1 p408 q408
         obtain rfl : ad407 = ad408 := (by injection e408)
         replace hx408_0 := (HB.out.cell (World.block_lt_of_cell? w _ hx408_0)).trans hx408_0
         replace hx408_1 := (HB.out.cell (World.block_lt_of_cell? w _ hx408_1)).trans hx408_1
         replace hx408_2 := (HB.out.cell (World.block_lt_of_cell? w _ hx408_2)).trans hx408_2
         replace hx408_3 := (HB.out.cell (World.block_lt_of_cell? w _ hx408_3)).trans hx408_3
         replace p408 := eq_true p408
         replace q408 := eq_true q408
         have p409 : 0 ≤ (a1 : Int) := of_decide_eq_true (zz6)
         have q409 : a1 < (l0_1.length : Int) := of_decide_eq_true (zz6)
         obtain ⟨ad409, e409, hx409_0, hx409_1, hx409_2, hx409_3⟩ := at_T41 HR0_1.out a1 p409 q409
         obtain rfl : ad407 = ad409 := (by injection e409)
         replace hx409_0 := (HB.out.cell (World.block_lt_of_cell? w _ hx409_0)).trans hx409_0
         replace hx409_1 := (HB.out.cell (World.block_lt_of_cell? w _ hx409_1)).trans hx409_1
         replace hx409_2 := (HB.out.cell (World.block_lt_of_cell? w _ hx409_2)).trans hx409_2
         replace hx409_3 := (HB.out.cell (World.block_lt_of_cell? w _ hx409_3)).trans hx409_3
         replace p409 := eq_true p409
         replace q409 := eq_true q409
         go_wp2
         repeat (go_quiet (fail); try go_wp2)
         go_roundg k1
         case measure => have := HK1.out; omega
         case rel => exact ⟨(wrap64 (x5_1 - 1)), (zz3), H', ⟨zz22⟩, ⟨by (with_reducible repeat (first | refine blk_drewN ?_ _ | refine blk_drew ?_ | refine blk_alloc ?_ _)); exact BK406.out⟩, ⟨zz17⟩⟩
       ·rw [if_neg c8] at H
        exact absurd H (by simp)
      ·rw [if_neg c7] at H
       exact absurd H (by simp)
     ·rw [if_neg c6] at H
      have c6b0 : decide (((rd_T41 l0_1 a1).f2) < x5_1) = false := decide_eq_false c6
      clear c6
      obtain rfl := Option.some.inj H
      have hcz12_0 : wr.cell? ⟨gb406, 0, none⟩ = some (.slice A0_0 l0_0.length c0_0) := (blk_cell BK406.out 0).trans rfl
      have hcz12_1 : wr.cell? ⟨gb406, 1, none⟩ = some (.slice A0_1 l0_1.length c0_1) := (blk_cell BK406.out 1).trans rfl
      have hfz12_0 := blk_frozen BK406.out 0
      have hfz12_1 := blk_frozen BK406.out 1
      have p407 : 0 ≤ (a1 : Int) := of_decide_eq_true (zz6)
      have q407 : a1 < (l0_1.length : Int) := of_decide_eq_true (zz6)
      obtain ⟨ad407, e407, hx407_0, hx407_1, hx407_2, hx407_3⟩ := at_T41 HR0_1.out a1 p407 q407
      cases e407
      replace hx407_0 := (HB.out.cell (World.block_lt_of_cell? w _ hx407_0)).trans hx407_0
      replace hx407_1 := (HB.out.cell (World.block_lt_of_cell? w _ hx407_1)).trans hx407_1
      replace hx407_2 := (HB.out.cell (World.block_lt_of_cell? w _ hx407_2)).trans hx407_2
      replace hx407_3 := (HB.out.cell (World.block_lt_of_cell? w _ hx407_3)).trans hx407_3
      replace p407 := eq_true p407
      replace q407 := eq_true q407
      go_wp2
      repeat (go_quiet (fail); try go_wp2)
      go_ret
      exact ⟨zz9, zz17⟩
    ·rw [if_neg c5] at H
     exact absurd H (by simp)
   ·rw [if_neg c4] at H
    exact absurd H (by simp)
def R4_depth.l0 : Nat → Int → Int → List ByteArray → List (S41) → Option (Int)
 | 0, _, _, _, _ => none
 | k + 1, x1, x5, x411000, x411001 => if 0 ≤ x1 then (if x1 < (x411001.length : Int) then (if ((rd_T41 x411001 x1).f2) ≥ 0 then (R4_depth.l0 k ((rd_T41 x411001 x1).f2) (wrap64 (x5 + 1)) x411000 x411001) else (some x5)) else (none)) else (none)
def R4_depth.f (k : Nat) (l0_0 : List ByteArray) (l0_1 : List (S41)) (a1 : Int) : Option (Int) := R4_depth.l0 k a1 0 l0_0 l0_1
set_option maxHeartbeats 8000000 in
set_option maxRecDepth 100000 in
theorem R4_depth.calls (k : Nat) (A0_0 : Option Addr) (c0_0 : Nat) (l0_0 : List ByteArray) (A0_1 : Option Addr) (c0_1 : Nat) (l0_1 : List (S41)) (a1 : Int) (r : Int) (w : World) (hr0_0 : Kd.C Kd.string w A0_0 l0_0.length l0_0) (hc0_0 : l0_0.length ≤ c0_0) (hr0_1 : Kd.C k41 w A0_1 l0_1.length l0_1) (hc0_1 : l0_1.length ≤ c0_1) (h : R4_depth.f k l0_0 l0_1 a1 = some r) :
 Calls Tryz.prog 52 #[.agg #[.slice A0_0 l0_0.length c0_0, .slice A0_1 l0_1.length c0_1], .int .i64 a1] w fun e w' => e = .returned (.int .i64 r) ∧ Below w.heap.size w w' := by
 have hu27 := Tryz.underlying27
 have HR0_0 := Aside0.mk hr0_0
 have HC0_0 := Aside0.mk hc0_0
 clear hr0_0 hc0_0
 have HR0_1 := Aside0.mk hr0_1
 have HC0_1 := Aside0.mk hc0_1
 clear hr0_1 hc0_1
 have HB := Aside0.mk (Below.refl w.heap.size w)
 have H : (R4_depth.l0 k a1 0 l0_0 l0_1) = some r := h
 clear h
 have H' := Aside0.mk H
 clear H
 go_enter Tryz.func52, Tryz.ntmps52
 go_wp2_with (first | ((with_reducible refine gate_dst (N := 2) rfl ?_); refine box_event ?hg (N := 2) ?hd (cs := #[.slice A0_0 l0_0.length c0_0, .slice A0_1 l0_1.length c0_1]) (t := 27) ?hr ?_; (case hd => rfl); (case hg => rfl); (case hr => first | (go_simp; done) | (go_simp; rfl)); intro gb410 hg w3 hbox hb; have n0_ := Aside0.mk (below_step (zz0) hb); have n1_ := Aside0.mk (hbox); have n2_ := Aside0.mk ((zz21 : w.heap.size ≤ gb410)); have n3_ := Aside0.mk ((zz21 : w.heap.size ≤ gb410)); clear HB; have HB := n0_; have BK410 := n1_; have GW410 := n2_; have GE410 := n3_; clear n0_ n1_ n2_ n3_; clear hb hbox hg))
 go_loopg [1, 5] k (fun kq v1 v5 w' => ∃ (x1_1 : Int) (x5_1 : Int), v1 = .int .i64 x1_1 ∧ v5 = .int .i64 x5_1 ∧ Aside0 (R4_depth.l0 kq x1_1 x5_1 l0_0 l0_1 = some r) ∧ Aside0 (kq ≤ k) ∧ Aside0 (w'.heap[gb410]? = some (.cells #[(.slice A0_0 l0_0.length c0_0), (.slice A0_1 l0_1.length c0_1)] 27 (0, 0))) ∧ Aside0 (Below w.heap.size w w'))
 case atStart => exact ⟨(a1), (0), (zz3), (zz3), H', ⟨Nat.le_refl _⟩, ⟨by (with_reducible repeat (first | refine blk_drewN ?_ _ | refine blk_drew ?_ | refine blk_alloc ?_ _)); exact BK410.out⟩, ⟨zz27⟩⟩
 case round =>
  clear H'
  try clear p2
  obtain ⟨x1_1, x5_1, rfl, rfl, HA, HK1, BK410, HB⟩ := hrel
  cases gk with
  | zero => exact absurd HA.out (by simp [R4_depth.l0])
  | succ k1 =>
   have H := HA.out
   clear HA
   simp only [R4_depth.l0] at H
   by_cases c4 : 0 ≤ x1_1
   ·rw [if_pos c4] at H
    have c4b0 : decide (0 ≤ x1_1) = true := decide_eq_true c4
    clear c4
    by_cases c5 : x1_1 < (l0_1.length : Int)
    ·rw [if_pos c5] at H
     have c5b0 : decide (x1_1 < (l0_1.length : Int)) = true := decide_eq_true c5
     clear c5
     by_cases c6 : ((rd_T41 l0_1 x1_1).f2) ≥ 0
     ·rw [if_pos c6] at H
      have c6b0 : decide (0 ≤ ((rd_T41 l0_1 x1_1).f2)) = true := decide_eq_true c6
      clear c6
      have H' := Aside0.mk H
      clear H
      have hcz7_0 : wr.cell? ⟨gb410, 0, none⟩ = some (.slice A0_0 l0_0.length c0_0) := (blk_cell BK410.out 0).trans rfl
      have hcz7_1 : wr.cell? ⟨gb410, 1, none⟩ = some (.slice A0_1 l0_1.length c0_1) := (blk_cell BK410.out 1).trans rfl
      have hfz7_0 := blk_frozen BK410.out 0
      have hfz7_1 := blk_frozen BK410.out 1
      have p411 : 0 ≤ (x1_1 : Int) := of_decide_eq_true (zz6)
      have q411 : x1_1 < (l0_1.length : Int) := of_decide_eq_true (zz6)
      obtain ⟨ad411, e411, hx411_0, hx411_1, hx411_2, hx411_3⟩ := at_T41 HR0_1.out x1_1 p411 q411
      cases e411
      replace hx411_0 := (HB.out.cell (World.block_lt_of_cell? w _ hx411_0)).trans hx411_0
      replace hx411_1 := (HB.out.cell (World.block_lt_of_cell? w _ hx411_1)).trans hx411_1
      replace hx411_2 := (HB.out.cell (World.block_lt_of_cell? w _ hx411_2)).trans hx411_2
      replace hx411_3 := (HB.out.cell (World.block_lt_of_cell? w _ hx411_3)).trans hx411_3
      replace p411 := eq_true p411
      replace q411 := eq_true q411
      have p412 : 0 ≤ (x1_1 : Int) := of_decide_eq_true (zz6)
      have q412 : x1_1 < (l0_1.length : Int) := of_decide_eq_true (zz6)
      obtain ⟨ad412, e412, hx412_0, hx412_1, hx412_2, hx412_3⟩ := at_T41 HR0_1.out x1_1 p412 q412
      obtain rfl : ad411 = ad412 := (by injection e412)
      replace hx412_0 := (HB.out.cell (World.block_lt_of_cell? w _ hx412_0)).trans hx412_0
      replace hx412_1 := (HB.out.cell (World.block_lt_of_cell? w _ hx412_1)).trans hx412_1
      replace hx412_2 := (HB.out.cell (World.block_lt_of_cell? w _ hx412_2)).trans hx412_2
      replace hx412_3 := (HB.out.cell (World.block_lt_of_cell? w _ hx412_3)).trans hx412_3
      replace p412 := eq_true p412
      replace q412 := eq_true q412
      go_wp2
      go_roundg k1
      case measure => have := HK1.out; omega
      case rel => exact ⟨((rd_T41 l0_1 x1_1).f2), (wrap64 (x5_1 + 1)), (zz3), (zz3), H', ⟨zz22⟩, ⟨by (with_reducible repeat (first | refine blk_drewN ?_ _ | refine blk_drew ?_ | refine blk_alloc ?_ _)); exact BK410.out⟩, ⟨zz27⟩⟩
     ·rw [if_neg c6] at H
      have c6b0 : decide (0 ≤ ((rd_T41 l0_1 x1_1).f2)) = false := decide_eq_false c6
      clear c6
      obtain rfl := Option.some.inj H
      have hcz8_0 : wr.cell? ⟨gb410, 0, none⟩ = some (.slice A0_0 l0_0.length c0_0) := (blk_cell BK410.out 0).trans rfl
      have hcz8_1 : wr.cell? ⟨gb410, 1, none⟩ = some (.slice A0_1 l0_1.length c0_1) := (blk_cell BK410.out 1).trans rfl
      have hfz8_0 := blk_frozen BK410.out 0
      have hfz8_1 := blk_frozen BK410.out 1
      have p411 : 0 ≤ (x1_1 : Int) := of_decide_eq_true (zz6)
      have q411 : x1_1 < (l0_1.length : Int) := of_decide_eq_true (zz6)
      obtain ⟨ad411, e411, hx411_0, hx411_1, hx411_2, hx411_3⟩ := at_T41 HR0_1.out x1_1 p411 q411
      cases e411
      replace hx411_0 := (HB.out.cell (World.block_lt_of_cell? w _ hx411_0)).trans hx411_0
      replace hx411_1 := (HB.out.cell (World.block_lt_of_cell? w _ hx411_1)).trans hx411_1
      replace hx411_2 := (HB.out.cell (World.block_lt_of_cell? w _ hx411_2)).trans hx411_2
      replace hx411_3 := (HB.out.cell (World.block_lt_of_cell? w _ hx411_3)).trans hx411_3
      replace p411 := eq_true p411
      replace q411 := eq_true q411
      go_wp2
      go_ret
      exact ⟨zz9, zz27⟩
    ·rw [if_neg c5] at H
     exact absurd H (by simp)
   ·rw [if_neg c4] at H
    exact absurd H (by simp)
end Go.Proofs.YtlhhhlimjajnlaaGreat.Q
end
