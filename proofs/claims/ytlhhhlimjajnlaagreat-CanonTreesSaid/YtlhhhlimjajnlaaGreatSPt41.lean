/- Parts of the proof of canonTrees_holds, kept and merged by a program of mine (wip/tools/slim.py) out of my texts: Q19 -/
import Derived.Test.YtlhhhlimjajnlaaGreatSPt0
import Derived.Test.YtlhhhlimjajnlaaGreatSPt4
import Derived.Test.YtlhhhlimjajnlaaGreatSPt40
section
namespace Go.Proofs.YtlhhhlimjajnlaaGreat.X
end Go.Proofs.YtlhhhlimjajnlaaGreat.X
namespace Go.Proofs.YtlhhhlimjajnlaaGreat.Q
open Go.RowKit Go.Proofs.YtlhhhlimjajnlaaGreatW.PrintWords Go.Proofs.YtlhhhlimjajnlaaGreatW.PrintLast Go.Proofs.YtlhhhlimjajnlaaGreatW.PrintMore
attribute [local go_sem] max2_int min2_int max_two min_two max_three min_three max_four min_four   
open Go.Proofs.YtlhhhlimjajnlaaGreat.X
set_option linter.unusedVariables false
set_option linter.unusedSimpArgs false
def L4_awake.f  : Option (Bool) := (canon_Canon.f (⟨#[60, 97, 32, 98, 61, 39, 38, 103, 116, 59, 39, 32, 62, 120, 60, 99, 47, 62, 60, 47, 97, 62]⟩ : ByteArray)).bind fun bt384 => (if bt384.1.toList = ([60, 97, 32, 98, 61, 34, 38, 103, 116, 59, 34, 62, 120, 60, 99, 62, 60, 47, 99, 62, 60, 47, 97, 62] : List UInt8) then (some (bt384.2 == 0)) else (some false))
set_option maxHeartbeats 8000000 in
set_option maxRecDepth 100000 in
theorem L4_awake.calls  (r : Bool) (w : World) (hG : G w) (h : L4_awake.f  = some r) :
 Calls Tryz.prog 15 #[] w fun e w' => e = .returned (.bool r) ∧ Below w.heap.size w w' := by
 have HB := Aside0.mk (Below.refl w.heap.size w)
 have H : ((canon_Canon.f (⟨#[60, 97, 32, 98, 61, 39, 38, 103, 116, 59, 39, 32, 62, 120, 60, 99, 47, 62, 60, 47, 97, 62]⟩ : ByteArray)).bind fun bt384 => (if bt384.1.toList = ([60, 97, 32, 98, 61, 34, 38, 103, 116, 59, 34, 62, 120, 60, 99, 62, 60, 47, 99, 62, 60, 47, 97, 62] : List UInt8) then (some (bt384.2 == 0)) else (some false))) = some r := h
 clear h
 replace H := Option.bind_eq_some_iff.mp H
 obtain ⟨⟨t384, t385⟩, A10, H⟩ := H
 replace H : (if t384.toList = ([60, 97, 32, 98, 61, 34, 38, 103, 116, 59, 34, 62, 120, 60, 99, 62, 60, 47, 99, 62, 60, 47, 97, 62] : List UInt8) then (some (t385 == 0)) else (some false)) = some r := H
 have A1 := Aside0.mk A10
 clear A10
 by_cases c2 : t384.toList = ([60, 97, 32, 98, 61, 34, 38, 103, 116, 59, 34, 62, 120, 60, 99, 62, 60, 47, 99, 62, 60, 47, 97, 62] : List UInt8)
 ·rw [if_pos c2] at H
  have c2b0 : (t384.toList == ([60, 97, 32, 98, 61, 34, 38, 103, 116, 59, 34, 62, 120, 60, 99, 62, 60, 47, 99, 62, 60, 47, 97, 62] : List UInt8)) = true := beq_iff_eq.mpr c2
  have c2b1 : (t384.toList != ([60, 97, 32, 98, 61, 34, 38, 103, 116, 59, 34, 62, 120, 60, 99, 62, 60, 47, 99, 62, 60, 47, 97, 62] : List UInt8)) = false := bne_eq_false_iff_eq.mpr c2
  clear c2
  obtain rfl := Option.some.inj H
  go_enter Tryz.func15, Tryz.ntmps15
  go_wp2_with (first | ((with_reducible refine gate_callee (f := 22) rfl ?_); refine goesL_ (some 4) rfl rfl Tryz.func22 (by kernel_rfl) rfl #[.string (⟨#[60, 97, 32, 98, 61, 39, 38, 103, 116, 59, 39, 32, 62, 120, 60, 99, 47, 62, 60, 47, 97, 62]⟩ : ByteArray)] rfl (zz13) ?_; (with_reducible refine (canon_Canon.calls (⟨#[60, 97, 32, 98, 61, 39, 38, 103, 116, 59, 39, 32, 62, 120, 60, 99, 47, 62, 60, 47, 97, 62]⟩ : ByteArray) t384 t385 _ (by first | exact hG | exact G.below hG (zz2)) A1.out).mono ?_); rintro e w3 ⟨rfl, hb⟩; refine ⟨_, rfl, ?_⟩; have n0_ := Aside0.mk (below_step (zz2) hb); clear HB; have HB := n0_; clear n0_; (try clear hb); (try clear hb2); (try clear hk); (try clear hi)))
  go_ret
  exact ⟨zz11, zz2⟩
 ·rw [if_neg c2] at H
  have c2b0 : (t384.toList == ([60, 97, 32, 98, 61, 34, 38, 103, 116, 59, 34, 62, 120, 60, 99, 62, 60, 47, 99, 62, 60, 47, 97, 62] : List UInt8)) = false := beq_eq_false_iff_ne.mpr c2
  have c2b1 : (t384.toList != ([60, 97, 32, 98, 61, 34, 38, 103, 116, 59, 34, 62, 120, 60, 99, 62, 60, 47, 99, 62, 60, 47, 97, 62] : List UInt8)) = true := bne_iff_ne.mpr c2
  obtain rfl := Option.some.inj H
  go_enter Tryz.func15, Tryz.ntmps15
  go_wp2_with (first | ((with_reducible refine gate_callee (f := 22) rfl ?_); refine goesL_ (some 4) rfl rfl Tryz.func22 (by kernel_rfl) rfl #[.string (⟨#[60, 97, 32, 98, 61, 39, 38, 103, 116, 59, 39, 32, 62, 120, 60, 99, 47, 62, 60, 47, 97, 62]⟩ : ByteArray)] rfl (zz13) ?_; (with_reducible refine (canon_Canon.calls (⟨#[60, 97, 32, 98, 61, 39, 38, 103, 116, 59, 39, 32, 62, 120, 60, 99, 47, 62, 60, 47, 97, 62]⟩ : ByteArray) t384 t385 _ (by first | exact hG | exact G.below hG (zz2)) A1.out).mono ?_); rintro e w4 ⟨rfl, hb⟩; refine ⟨_, rfl, ?_⟩; have n0_ := Aside0.mk (below_step (zz2) hb); clear HB; have HB := n0_; clear n0_; (try clear hb); (try clear hb2); (try clear hk); (try clear hi)))
  go_ret
  exact ⟨zz11, zz2⟩
def L4_short.f (a0 : ByteArray) (a1 : Int) : Option (ByteArray) := if (a0.size : Int) > a1 then (if 0 ≤ a1 then (if a1 ≤ (a0.size : Int) then (some (a0.extract 0 (a1 : Int).toNat)) else (none)) else (none)) else (some a0)
set_option maxHeartbeats 8000000 in
set_option maxRecDepth 100000 in
theorem L4_short.calls (a0 : ByteArray) (a1 : Int) (r : ByteArray) (w : World) (h : L4_short.f a0 a1 = some r) :
 Calls Tryz.prog 21 #[.string a0, .int .i64 a1] w fun e w' => e = .returned (.string r) ∧ Drawn0 w w' := by
 have H : (if (a0.size : Int) > a1 then (if 0 ≤ a1 then (if a1 ≤ (a0.size : Int) then (some (a0.extract 0 (a1 : Int).toNat)) else (none)) else (none)) else (some a0)) = some r := h
 clear h
 by_cases c3 : (a0.size : Int) > a1
 ·rw [if_pos c3] at H
  have c3b0 : decide (a1 < (a0.size : Int)) = true := decide_eq_true c3
  clear c3
  by_cases c4 : 0 ≤ a1
  ·rw [if_pos c4] at H
   have c4b0 := eq_true c4
   have c4b1 : decide (0 ≤ a1) = true := decide_eq_true c4
   clear c4
   by_cases c5 : a1 ≤ (a0.size : Int)
   ·rw [if_pos c5] at H
    have c5b0 := eq_true c5
    have c5b1 : decide (a1 ≤ (a0.size : Int)) = true := decide_eq_true c5
    clear c5
    obtain rfl := Option.some.inj H
    go_enter Tryz.func21, Tryz.ntmps21
    go_wp2
    go_ret
    exact ⟨zz7, zz5⟩
   ·rw [if_neg c5] at H
    exact absurd H (by simp)
  ·rw [if_neg c4] at H
   exact absurd H (by simp)
 ·rw [if_neg c3] at H
  have c3b0 : decide (a1 < (a0.size : Int)) = false := decide_eq_false c3
  clear c3
  obtain rfl := Option.some.inj H
  go_enter Tryz.func21, Tryz.ntmps21
  go_wp2
  go_ret
  exact ⟨zz7, zz5⟩
mutual
def L4_small.j1 : Nat → List ByteArray → List (S41) → List ByteArray → Option (List ByteArray × (List (S41)))
 | 0, _, _, _ => none
 | k + 1, x387000, x387001, x389000 => L4_small.l1 k 0 x387000 x387001 x389000 ([] : List (S41))
def L4_small.l1 : Nat → Int → List ByteArray → List (S41) → List ByteArray → List (S41) → Option (List ByteArray × (List (S41)))
 | 0, _, _, _, _, _ => none
 | k + 1, x5, x387000, x387001, x389000, x389001 => if x5 < (x387001.length : Int) then (if x5 < 30 then (if 0 ≤ x5 then ((L4_short.f ((rd_T41 x387001 x5).f3) 20).bind fun t396 => (if x389001.length < 3518437208883 then (L4_small.l1 k (wrap64 (x5 + 1)) x387000 x387001 x389000 (x389001 ++ [(⟨(rd_T41 x387001 x5).f0, (rd_T41 x387001 x5).f1, (rd_T41 x387001 x5).f2, t396⟩ : S41)])) else (none))) else (none)) else (some (x389000, x389001))) else (some (x389000, x389001))
def L4_small.l0 : Nat → Int → List ByteArray → List (S41) → List ByteArray → Option (List ByteArray × (List (S41)))
 | 0, _, _, _, _ => none
 | k + 1, x4, x387000, x387001, x389000 => if x4 < (x387000.length : Int) then (if x4 < 12 then (if 0 ≤ x4 then ((L4_short.f (rdOf ByteArray.empty x387000 x4) 20).bind fun t390 => (if x389000.length < 8796093022208 then (L4_small.l0 k (wrap64 (x4 + 1)) x387000 x387001 (x389000 ++ [t390])) else (none))) else (none)) else (L4_small.j1 k x387000 x387001 x389000)) else (L4_small.j1 k x387000 x387001 x389000)
end
def L4_small.f (k : Nat) (l0_0 : List ByteArray) (l0_1 : List (S41)) : Option (List ByteArray × (List (S41))) := L4_small.l0 k 0 l0_0 l0_1 ([] : List ByteArray)
theorem L4_small.mono_l : ∀ k, (∀ y0 y1 y2, LeO (L4_small.j1 k y0 y1 y2) (L4_small.j1 (k + 1) y0 y1 y2)) ∧ (∀ y0 y1 y2 y3 y4, LeO (L4_small.l1 k y0 y1 y2 y3 y4) (L4_small.l1 (k + 1) y0 y1 y2 y3 y4)) ∧ (∀ y0 y1 y2 y3, LeO (L4_small.l0 k y0 y1 y2 y3) (L4_small.l0 (k + 1) y0 y1 y2 y3))
 | 0 => ⟨fun _ _ _ r h => by simp [L4_small.j1] at h, fun _ _ _ _ _ r h => by simp [L4_small.l1] at h, fun _ _ _ _ r h => by simp [L4_small.l0] at h⟩
 | k + 1 => by
  obtain ⟨ih0, ih1, ih2⟩ := L4_small.mono_l k
  refine ⟨?_, ?_, ?_⟩
  ·intro y0 y1 y2
   unfold L4_small.j1
   exact leT
  ·intro y0 y1 y2 y3 y4
   unfold L4_small.l1
   exact leT
  ·intro y0 y1 y2 y3
   unfold L4_small.l0
   exact leT
theorem L4_small.mono : ∀ a0 a1 k, LeO (L4_small.f k a0 a1) (L4_small.f (k + 1) a0 a1) := by
 intro a0 a1 k
 obtain ⟨ih0, ih1, ih2⟩ := L4_small.mono_l k
 unfold L4_small.f
 exact leT
def L4_small.T5 : Bool × List (List Nat × List Nat) := (true, [([], []), ([0], [0]), ([], []), ([2], [2]), ([], []), ([3, 4], [3, 4]), ([5], [5]), ([6], [6]), ([7], [7]), ([1, 8, 7], [1, 8]), ([0, 1, 2, 3, 4, 5, 6, 7, 8, 9], []), ([10, 9, 9, 0, 1, 2, 3, 4, 5, 6, 7, 8, 9], [9, 10])])
def L4_small.B5 : List Nat := [0, 1, 0, 4, 0, 28, 60, 124, 252, 511, 1023, 2047]
theorem L4_small.tab5 : rtab .any (opsOf Tryz.f16 5) = L4_small.T5 := by kernel_rfl
theorem L4_small.bits5 : waitsOk L4_small.T5.2 L4_small.B5 = true := by kernel_rfl
set_option maxHeartbeats 8000000 in
set_option maxRecDepth 100000 in
theorem L4_small.calls (k : Nat) (A0_0 : Option Addr) (c0_0 : Nat) (l0_0 : List ByteArray) (A0_1 : Option Addr) (c0_1 : Nat) (l0_1 : List (S41)) (r1 : List ByteArray) (r2 : List (S41)) (w : World) (hr0_0 : Kd.C Kd.string w A0_0 l0_0.length l0_0) (hc0_0 : l0_0.length ≤ c0_0) (hr0_1 : Kd.C k41 w A0_1 l0_1.length l0_1) (hc0_1 : l0_1.length ≤ c0_1) (h : L4_small.f k l0_0 l0_1 = some (r1, r2)) :
 Calls Tryz.prog 16 #[.agg #[.slice A0_0 l0_0.length c0_0, .slice A0_1 l0_1.length c0_1]] w fun e w' => ∃ v0_ v1_ : Value, e = .returned (.agg #[v0_, v1_]) ∧ Kd.R Kd.string 9 w' w.heap.size (fun _ => True) v0_ r1 ∧ Kd.R k41 41 w' w.heap.size (fun _ => True) v1_ r2 ∧ Below w.heap.size w w' := by
 have hu27 := Tryz.underlying27
 have hu41 := Tryz.underlying41
 have HR0_0 := Aside0.mk hr0_0
 have HC0_0 := Aside0.mk hc0_0
 clear hr0_0 hc0_0
 have HR0_1 := Aside0.mk hr0_1
 have HC0_1 := Aside0.mk hc0_1
 clear hr0_1 hc0_1
 have HB := Aside0.mk (Below.refl w.heap.size w)
 have H : (L4_small.l0 k 0 l0_0 l0_1 ([] : List ByteArray)) = some (r1, r2) := h
 clear h
 have HC2 := Aside0.mk H
 clear H
 go_enter Tryz.func16, Tryz.ntmps16
 go_upto_block 0 with (first | ((with_reducible refine gate_dst (N := 1) rfl ?_); refine box_event ?hg (N := 1) ?hd (cs := #[.slice A0_0 l0_0.length c0_0, .slice A0_1 l0_1.length c0_1]) (t := 27) ?hr ?_; (case hd => rfl); (case hg => rfl); (case hr => first | (go_simp; done) | (go_simp; rfl)); intro gb386 hg w3 hbox hb; have n0_ := Aside0.mk (below_step (zz2) hb); have n1_ := Aside0.mk (hbox); have n2_ := Aside0.mk ((zz35 : w.heap.size ≤ gb386)); have n3_ := Aside0.mk ((zz35 : w.heap.size ≤ gb386)); clear HB; have HB := n0_; have BK386 := n1_; have GW386 := n2_; have GE386 := n3_; clear n0_ n1_ n2_ n3_; clear hb hbox hg) | ((with_reducible refine gate_dst (N := 2) rfl ?_); refine box_event ?hg (N := 2) ?hd (cs := #[.slice none 0 0, .slice none 0 0]) (t := 27) ?hr ?_; (case hd => rfl); (case hg => rfl); (case hr => first | (go_simp; done) | (go_simp; rfl)); intro gb387 hg w4 hbox hb; have n0_ := Aside0.mk (blk_below (g := gb386) (o := .cells #[.slice A0_0 l0_0.length c0_0, .slice A0_1 l0_1.length c0_1] 27 (0, 0)) (zz15) hb); have n1_ := Aside0.mk (below_step (by repeat (first | (with_reducible first | exact HB.out | apply below_alloc | apply pw_below_drewN | apply below_drew1 | refine below_set ?_ GE386.out) | exact HB.out)) hb); have n2_ := Aside0.mk (hbox); have n3_ := Aside0.mk ((by rw [hg]; exact (below_size (by repeat (first | (with_reducible first | exact HB.out | apply below_alloc | apply pw_below_drewN | apply below_drew1 | refine below_set ?_ GE386.out) | exact HB.out))) : w.heap.size ≤ gb387)); have n4_ := Aside0.mk ((by rw [hg]; exact (below_size (by repeat (first | (with_reducible first | exact HB.out | apply below_alloc | apply pw_below_drewN | apply below_drew1 | refine below_set ?_ GE386.out) | exact HB.out))) : w.heap.size ≤ gb387)); have n5_ := Aside0.mk ((by rw [hg]; exact Nat.ne_of_lt (blk_lt (g := gb386) (o := .cells #[.slice A0_0 l0_0.length c0_0, .slice A0_1 l0_1.length c0_1] 27 (0, 0)) (zz15)) : gb386 ≠ gb387)); have n6_ := Aside0.mk ((by rw [hg]; exact Nat.ne_of_gt (blk_lt (g := gb386) (o := .cells #[.slice A0_0 l0_0.length c0_0, .slice A0_1 l0_1.length c0_1] 27 (0, 0)) (zz15)) : gb387 ≠ gb386)); clear BK386; clear HB; have BK386 := n0_; have HB := n1_; have BK387 := n2_; have GW387 := n3_; have GE387 := n4_; have NB386_387 := n5_; have NB387_386 := n6_; clear n0_ n1_ n2_ n3_ n4_ n5_ n6_; clear hb hbox hg) | ((with_reducible refine gate_dst (N := 3) rfl ?_); refine box_event ?hg (N := 3) ?hd (cs := #[.slice none 0 0, .slice none 0 0]) (t := 27) ?hr ?_; (case hd => rfl); (case hg => rfl); (case hr => first | (go_simp; done) | (go_simp; rfl)); intro gb388 hg w5 hbox hb; have n0_ := Aside0.mk (blk_below (g := gb386) (o := .cells #[.slice A0_0 l0_0.length c0_0, .slice A0_1 l0_1.length c0_1] 27 (0, 0)) (zz15) hb); have n1_ := Aside0.mk (blk_below (g := gb387) (o := .cells #[.slice none 0 0, .slice none 0 0] 27 (0, 0)) (zz18) hb); have n2_ := Aside0.mk (below_step (by repeat (first | (with_reducible first | exact HB.out | apply below_alloc | apply pw_below_drewN | apply below_drew1 | refine below_set ?_ GE386.out | refine below_set ?_ GE387.out) | exact HB.out)) hb); have n3_ := Aside0.mk (hbox); have n4_ := Aside0.mk ((by rw [hg]; exact (below_size (by repeat (first | (with_reducible first | exact HB.out | apply below_alloc | apply pw_below_drewN | apply below_drew1 | refine below_set ?_ GE386.out | refine below_set ?_ GE387.out) | exact HB.out))) : w.heap.size ≤ gb388)); have n5_ := Aside0.mk ((by rw [hg]; exact (below_size (by repeat (first | (with_reducible first | exact HB.out | apply below_alloc | apply pw_below_drewN | apply below_drew1 | refine below_set ?_ GE386.out | refine below_set ?_ GE387.out) | exact HB.out))) : w.heap.size ≤ gb388)); have n6_ := Aside0.mk ((by rw [hg]; exact Nat.ne_of_lt (blk_lt (g := gb386) (o := .cells #[.slice A0_0 l0_0.length c0_0, .slice A0_1 l0_1.length c0_1] 27 (0, 0)) (zz15)) : gb386 ≠ gb388)); have n7_ := Aside0.mk ((by rw [hg]; exact Nat.ne_of_gt (blk_lt (g := gb386) (o := .cells #[.slice A0_0 l0_0.length c0_0, .slice A0_1 l0_1.length c0_1] 27 (0, 0)) (zz15)) : gb388 ≠ gb386)); have n8_ := Aside0.mk ((by rw [hg]; exact Nat.ne_of_lt (blk_lt (g := gb387) (o := .cells #[.slice none 0 0, .slice none 0 0] 27 (0, 0)) (zz18)) : gb387 ≠ gb388)); have n9_ := Aside0.mk ((by rw [hg]; exact Nat.ne_of_gt (blk_lt (g := gb387) (o := .cells #[.slice none 0 0, .slice none 0 0] 27 (0, 0)) (zz18)) : gb388 ≠ gb387)); clear BK386; clear BK387; clear HB; have BK386 := n0_; have BK387 := n1_; have HB := n2_; have BK388 := n3_; have GW388 := n4_; have GE388 := n5_; have NB386_388 := n6_; have NB388_386 := n7_; have NB387_388 := n8_; have NB388_387 := n9_; clear n0_ n1_ n2_ n3_ n4_ n5_ n6_ n7_ n8_ n9_; clear hb hbox hg))
 (try simp only [Act.put, List.setIfInBounds_toArray, List.set_cons_zero, List.set_cons_succ])
 go_cut [] (fun wc => ∃ (kq : Nat) (x389000_1 : List ByteArray) (u389000 : Value), Aside0 (L4_small.j1 kq l0_0 l0_1 x389000_1 = some (r1, r2)) ∧ Aside0 (kq ≤ k) ∧ Aside0 (Kd.R Kd.string 9 wc w.heap.size (fun _ => True) u389000 x389000_1) ∧ Aside0 (wc.heap[gb386]? = some (.cells #[(.slice A0_0 l0_0.length c0_0), (.slice A0_1 l0_1.length c0_1)] 27 (0, 0))) ∧ Aside0 (wc.heap[gb387]? = some (.cells #[(.slice none 0 0), (.slice none 0 0)] 27 (0, 0))) ∧ Aside0 (wc.heap[gb388]? = some (.cells #[u389000, (.slice none 0 0)] 27 (0, 0))) ∧ Aside0 (Below w.heap.size w wc))
 case first =>
  have H := HC2.out
  clear HC2
  have H' := Aside0.mk H
  clear H
  go_wp2
  go_loopg [4] k (fun kq v4 w' => ∃ (x4_1 : Int) (x389000_1 : List ByteArray) (u389000 : Value), v4 = .int .i64 x4_1 ∧ Aside0 (L4_small.l0 kq x4_1 l0_0 l0_1 x389000_1 = some (r1, r2)) ∧ Aside0 (kq ≤ k) ∧ Aside0 (Kd.R Kd.string 9 w' w.heap.size (fun _ => True) u389000 x389000_1) ∧ Aside0 (w'.heap[gb386]? = some (.cells #[(.slice A0_0 l0_0.length c0_0), (.slice A0_1 l0_1.length c0_1)] 27 (0, 0))) ∧ Aside0 (w'.heap[gb387]? = some (.cells #[(.slice none 0 0), (.slice none 0 0)] 27 (0, 0))) ∧ Aside0 (w'.heap[gb388]? = some (.cells #[u389000, (.slice none 0 0)] 27 (0, 0))) ∧ Aside0 (Below w.heap.size w w'))
  case atStart => exact ⟨(0), (([] : List ByteArray)), (.slice none 0 0), (zz7), H', ⟨Nat.le_refl _⟩, ⟨by first | exact Kd.R_nil _ _ _ _ _ | exact Kd.N_nil _ _ _ _ _ | exact Kd.V_nil _ _ _ _ _ | exact Kd.Q_nil _ _ _ _ _ | exact Kd.S_nil _ _ _ _ _⟩, ⟨zz15⟩, ⟨zz18⟩, ⟨zz20⟩, ⟨zz9⟩⟩
  case round =>
   clear H'
   try clear c1
   try clear p2
   obtain ⟨x4_1, x389000_1, u389000, rfl, HA, HK1, HO_389000, BK386, BK387, BK388, HB⟩ := hrel
   cases gk with
   | zero => exact absurd HA.out (by simp [L4_small.l0])
   | succ k1 =>
    have H := HA.out
    clear HA
    simp only [L4_small.l0] at H
    by_cases c6 : x4_1 < (l0_0.length : Int)
    ·rw [if_pos c6] at H
     have c6b0 : decide (x4_1 < (l0_0.length : Int)) = true := decide_eq_true c6
     clear c6
     (first | rw [c6b0] | (simp only [i64_w, i32_w]; rw [c6b0]) | skip)
     by_cases c7 : x4_1 < 12
     ·rw [if_pos c7] at H
      have c7b0 : decide (x4_1 < 12) = true := decide_eq_true c7
      clear c7
      by_cases c8 : 0 ≤ x4_1
      ·rw [if_pos c8] at H
       have c8b0 : decide (0 ≤ x4_1) = true := decide_eq_true c8
       clear c8
       replace H := Option.bind_eq_some_iff.mp H
       obtain ⟨t390, A90, H⟩ := H
       replace H : (if x389000_1.length < 8796093022208 then (L4_small.l0 k1 (wrap64 (x4_1 + 1)) l0_0 l0_1 (x389000_1 ++ [t390])) else (none)) = some (r1, r2) := H
       have A9 := Aside0.mk A90
       clear A90
       by_cases c10 : x389000_1.length < 8796093022208
       ·rw [if_pos c10] at H
        have LMc10 := Aside0.mk c10
        clear c10
        obtain ⟨y391, hy391⟩ : ∃ y_ : List ByteArray, y_ = (x389000_1 ++ [t390]) := ⟨_, rfl⟩
        replace H : (L4_small.l0 k1 (wrap64 (x4_1 + 1)) l0_0 l0_1 y391) = some (r1, r2) := by first | (rw [hy391]; with_reducible exact H) | (have H2_ := (Option.bind_some _ _).symm.trans H; rw [hy391]; with_reducible exact H2_) | (have H2_ := (Option.bind_some _ _).symm.trans H; with_reducible exact H2_) | with_reducible exact H | (rw [hy391]; exact H) | exact H
        have Ny391 := Aside0.mk hy391
        clear hy391
        have H' := Aside0.mk H
        clear H
        have hnb11 := NB386_387.out
        have hnc11 := NB387_386.out
        have hnb12 := NB386_388.out
        have hnc12 := NB388_386.out
        have hcz13_0 : wr.cell? ⟨gb386, 0, none⟩ = some (.slice A0_0 l0_0.length c0_0) := (blk_cell BK386.out 0).trans rfl
        have hcz13_1 : wr.cell? ⟨gb386, 1, none⟩ = some (.slice A0_1 l0_1.length c0_1) := (blk_cell BK386.out 1).trans rfl
        have hfz13_0 := blk_frozen BK386.out 0
        have hfz13_1 := blk_frozen BK386.out 1
        try go_wp2
        have n0_ := Aside0.mk (Kd.R_drew HO_389000.out)
        have n1_ := Aside0.mk (blk_drew BK386.out)
        have n2_ := Aside0.mk (blk_drew BK387.out)
        have n3_ := Aside0.mk (blk_drew BK388.out)
        have n4_ := Aside0.mk (below_drew1 HB.out)
        clear HO_389000
        clear BK386
        clear BK387
        clear BK388
        clear HB
        have HO_389000 := n0_
        have BK386 := n1_
        have BK387 := n2_
        have BK388 := n3_
        have HB := n4_
        clear n0_ n1_ n2_ n3_ n4_
        have p389 : 0 ≤ (x4_1 : Int) := of_decide_eq_true (zz1)
        have q389 : x4_1 < (l0_0.length : Int) := of_decide_eq_true (zz1)
        obtain ⟨ad389, e389, hx389_0⟩ := Kd.at_string HR0_0.out x4_1 p389 q389
        have hw389_0 := hx389_0
        cases e389
        replace hx389_0 := (HB.out.cell (World.block_lt_of_cell? w _ hx389_0)).trans hx389_0
        replace p389 := eq_true p389
        replace q389 := eq_true q389
        refine start_ (n := 12) (S := fun w' => w'.cell? ⟨gb388, 0, none⟩ = some (u389000) ∧ w'.cell? ⟨gb388, 1, none⟩ = some (.slice none 0 0) ∧ w'.cell? ⟨gb386, 0, none⟩ = some (.slice (some ad389) l0_0.length c0_0) ∧ w'.cell? ⟨gb386, 1, none⟩ = some (.slice A0_1 l0_1.length c0_1) ∧ w'.cell? (ad389.add (x4_1).toNat) = some (.string (rdOf ByteArray.empty l0_0 x4_1))) (ds := [11]) #[false, false, false, false, false, false, false, false, false, false, false, false] (by kernel_rfl) rfl rfl ⟨(blk_cell BK388.out 0).trans rfl, (blk_cell BK388.out 1).trans rfl, (blk_cell BK386.out 0).trans rfl, (blk_cell BK386.out 1).trans rfl, ((HB.out.cell (World.block_lt_of_cell? w _ hw389_0)).trans hw389_0)⟩ (fun hHeld => ?_); refine with_tabW L4_small.tab5 L4_small.bits5 (fun HT_ HW_ => ?_)
        generalize wr.drew = w14 at HO_389000 BK386 BK387 BK388 HB hx389_0 hHeld ⊢
        refine pure_ (i := 0) (N := some 18) (v := ?_) (a' := ?_) #[true, false, false, false, false, false, false, false, false, false, false, false] rfl rfl (any_of HT_.out (by kernel_rfl)) (fun _ _ _ h => h) (Or.inl ⟨by rfl, ?_⟩) ?_ ?_
        rotate_left
        ·intro w'
         go_simp
         with_reducible rfl
        rotate_left
        ·simp only [Act.put, List.setIfInBounds_toArray, List.set_cons_zero, List.set_cons_succ, i64_w, i32_w]
         rfl
        refine pure_ (i := 2) (N := some 20) (v := ?_) (a' := ?_) #[true, false, true, false, false, false, false, false, false, false, false, false] rfl rfl (any_of HT_.out (by kernel_rfl)) (fun _ _ _ h => h) (Or.inl ⟨by rfl, ?_⟩) ?_ ?_
        rotate_left
        ·intro w'
         go_simp
         with_reducible rfl
        rotate_left
        ·simp only [Act.put, List.setIfInBounds_toArray, List.set_cons_zero, List.set_cons_succ, i64_w, i32_w]
         rfl
        refine pure_ (i := 4) (N := some 22) (v := ?_) (a' := ?_) #[true, false, true, false, true, false, false, false, false, false, false, false] rfl rfl (any_of HT_.out (by kernel_rfl)) (fun _ _ _ h => h) (Or.inl ⟨by rfl, ?_⟩) ?_ ?_
        rotate_left
        ·intro w'
         go_simp
         with_reducible rfl
        rotate_left
        ·simp only [Act.put, List.setIfInBounds_toArray, List.set_cons_zero, List.set_cons_succ, i64_w, i32_w]
         rfl
        refine take_ (i := 1) (N := some 19) (v := ?_) (a' := ?_) #[true, true, true, false, true, false, false, false, false, false, false, false] rfl rfl (take_ofW HT_.out HW_.out (by kernel_rfl)) (fun _ _ _ h => h) (Or.inl ⟨by rfl, ?_⟩) hHeld ?_ ?_
        rotate_left
        ·rintro w' ⟨s0, s1, s2, s3, s4⟩
         go_simp
         with_reducible rfl
        rotate_left
        ·simp only [Act.put, List.setIfInBounds_toArray, List.set_cons_zero, List.set_cons_succ, i64_w, i32_w]
         rfl
        refine take_ (i := 3) (N := some 21) (v := ?_) (a' := ?_) #[true, true, true, true, true, false, false, false, false, false, false, false] rfl rfl (take_ofW HT_.out HW_.out (by kernel_rfl)) (fun _ _ _ h => h) (Or.inl ⟨by rfl, ?_⟩) hHeld ?_ ?_
        rotate_left
        ·rintro w' ⟨s0, s1, s2, s3, s4⟩
         go_simp
         with_reducible rfl
        rotate_left
        ·simp only [Act.put, List.setIfInBounds_toArray, List.set_cons_zero, List.set_cons_succ, i64_w, i32_w]
         rfl
        refine pure_ (i := 5) (N := some 23) (v := ?_) (a' := ?_) #[true, true, true, true, true, true, false, false, false, false, false, false] rfl rfl (any_of HT_.out (by kernel_rfl)) (fun _ _ _ h => h) (Or.inl ⟨by rfl, ?_⟩) ?_ ?_
        rotate_left
        ·intro w'
         go_simp
         with_reducible rfl
        rotate_left
        ·simp only [Act.put, List.setIfInBounds_toArray, List.set_cons_zero, List.set_cons_succ, i64_w, i32_w]
         rfl
        refine take_ (i := 6) (N := some 24) (v := ?_) (a' := ?_) #[true, true, true, true, true, true, true, false, false, false, false, false] rfl rfl (take_ofW HT_.out HW_.out (by kernel_rfl)) (fun _ _ _ h => h) (Or.inl ⟨by rfl, ?_⟩) hHeld ?_ ?_
        rotate_left
        ·rintro w' ⟨s0, s1, s2, s3, s4⟩
         go_simp
         with_reducible rfl
        rotate_left
        ·simp only [Act.put, List.setIfInBounds_toArray, List.set_cons_zero, List.set_cons_succ, i64_w, i32_w]
         rfl
        refine one_ (i := 7) (N := some 25) #[true, true, true, true, true, true, true, true, false, false, false, false] rfl rfl (one_of HT_.out (by kernel_rfl)) (by decide) (fun K hK => ?_)
        refine goes_ Tryz.func21 (by kernel_rfl) rfl #[.string (rdOf ByteArray.empty l0_0 x4_1), .int .i64 20] (by rfl) rfl rfl (zz13) ?_
        with_reducible refine (L4_short.calls (rdOf ByteArray.empty l0_0 x4_1) 20 t390 _ A9.out).mono ?_
        rintro e w' ⟨rfl, ⟨nd, rfl⟩⟩
        refine ⟨_, rfl, ?_⟩
        refine hK.out _ _ ⟨(blk_cell BK388.out 0).trans rfl, (blk_cell BK388.out 1).trans rfl, (blk_cell BK386.out 0).trans rfl, (blk_cell BK386.out 1).trans rfl, ((HB.out.cell (World.block_lt_of_cell? w _ hw389_0)).trans hw389_0)⟩ (fun hHeld => ?_)
        clear hK K
        refine norm_ (a' := ?_) ?_ ?_
        rotate_left
        ·show Act.put _ (some 25) _ = _
         simp only [Act.put, List.setIfInBounds_toArray, List.set_cons_zero, List.set_cons_succ, i64_w, i32_w]
         rfl
        refine one_ (i := 8) (N := some 26) #[true, true, true, true, true, true, true, true, true, false, false, false] rfl rfl (one_of HT_.out (by kernel_rfl)) (by decide) (fun K hK => ?_)
        refine value_ (w1 := ?_) (v := ?_) (by rfl) rfl ?_ ?_
        rotate_left 2
        ·go_simp
         constructor
         ·rfl
         ·rfl
        refine hK.out _ _ ⟨(blk_cell (blk_alloc BK388.out _) 0).trans rfl, (blk_cell (blk_alloc BK388.out _) 1).trans rfl, (blk_cell (blk_alloc BK386.out _) 0).trans rfl, (blk_cell (blk_alloc BK386.out _) 1).trans rfl, (World.cell?_alloc_lt _ _ _ (World.block_lt_of_cell? _ _ (((HB.out.cell (World.block_lt_of_cell? w _ hw389_0)).trans hw389_0)))).trans (((HB.out.cell (World.block_lt_of_cell? w _ hw389_0)).trans hw389_0))⟩ (fun hHeld => ?_)
        clear hK K
        refine norm_ (a' := ?_) ?_ ?_
        rotate_left
        ·show Act.put _ (some 26) _ = _
         simp only [Act.put, List.setIfInBounds_toArray, List.set_cons_zero, List.set_cons_succ, i64_w, i32_w]
         rfl
        refine one_ (i := 9) (N := some 27) #[true, true, true, true, true, true, true, true, true, true, false, false] rfl rfl (one_of HT_.out (by kernel_rfl)) (by decide) (fun K hK => ?_)
        refine Kd.R_append_step Kd.string (w0 := w) w.heap.size (by rfl) (.tmp 19) (.tmp 26) 24 9 (.string ⟨#[]⟩) 16 rfl Tryz.underlying24 info9 rfl (by decide) (by omega) u389000 x389000_1 t390 [.string t390] (fun _ => True) (fun _ => False) rfl rfl ?aP (fun _ hk => hk.elim) ?aF ?aO ?aB ?aS ?aL ?_
        (case aP => exact rfl)
        (case aB => exact (zz9))
        (case aF => exact (fun _ _ => trivial))
        (case aO => exact (zz31))
        (case aS => exact (below_size (zz9)))
        (case aL => have := LMc10.out; omega)
        intro v392 w15 ho hb hg hat
        rw [← Ny391.out] at ho
        have n0_ := Aside0.mk (blk_grown (g := gb386) (o := .cells #[.slice (some ad389) l0_0.length c0_0, .slice A0_1 l0_1.length c0_1] 27 (0, 0)) (zz15) hg (Kd.R_ne HO_389000.out BK386.out (by decide)))
        have n1_ := Aside0.mk (blk_grown (g := gb387) (o := .cells #[.slice none 0 0, .slice none 0 0] 27 (0, 0)) (zz18) hg (Kd.R_ne HO_389000.out BK387.out (by decide)))
        have n2_ := Aside0.mk (blk_grown (g := gb388) (o := .cells #[u389000, .slice none 0 0] 27 (0, 0)) (zz20) hg (Kd.R_ne HO_389000.out BK388.out (by decide)))
        have n3_ := Aside0.mk (hb)
        have n4_ := Aside0.mk (ho)
        clear BK386
        clear BK387
        clear BK388
        clear HB
        clear HO_389000
        have BK386 := n0_
        have BK387 := n1_
        have BK388 := n2_
        have HB := n3_
        have HO393 := n4_
        clear n0_ n1_ n2_ n3_ n4_
        clear ho hb hg hat
        obtain ⟨Ao16, co16, eo16⟩ := Kd.R_slice HO393.out
        (first | subst eo16 | (injection eo16 with f1_ f2_ f3_; have f4_ := f1_.symm; have f5_ := f3_.symm; clear f1_ f2_ f3_; subst f4_; subst f5_))
        refine hK.out _ _ ⟨(blk_cell BK388.out 0).trans rfl, (blk_cell BK388.out 1).trans rfl, (blk_cell BK386.out 0).trans rfl, (blk_cell BK386.out 1).trans rfl, ((HB.out.cell (World.block_lt_of_cell? w _ hw389_0)).trans hw389_0)⟩ (fun hHeld => ?_)
        clear hK K
        refine norm_ (a' := ?_) ?_ ?_
        rotate_left
        ·show Act.put _ (some 27) _ = _
         simp only [Act.put, List.setIfInBounds_toArray, List.set_cons_zero, List.set_cons_succ, i64_w, i32_w]
         rfl
        refine pure_ (i := 10) (N := some 28) (v := ?_) (a' := ?_) #[true, true, true, true, true, true, true, true, true, true, true, false] rfl rfl (any_of HT_.out (by kernel_rfl)) (fun _ _ _ h => h) (Or.inl ⟨by rfl, ?_⟩) ?_ ?_
        rotate_left
        ·intro w'
         go_simp
         with_reducible rfl
        rotate_left
        ·simp only [Act.put, List.setIfInBounds_toArray, List.set_cons_zero, List.set_cons_succ, i64_w, i32_w]
         rfl
        refine last_ (i := 11) (N := none) #[true, true, true, true, true, true, true, true, true, true, true, true] rfl rfl (one_of HT_.out (by kernel_rfl)) (by decide) (fun K hK => ?_)
        have hs17 : w15.cell? ⟨gb388, 0, none⟩ = some (u389000) := (blk_cell BK388.out 0).trans rfl
        have hfs17 := blk_frozen BK388.out 0
        have hns17_0 := NB386_388.out
        have hns17_1 := NB387_388.out
        have hms17_0 := NB388_386.out
        have hms17_1 := NB388_387.out
        refine skip_ (w1 := ?_) (by rfl) rfl ?_ ?_
        rotate_left
        ·go_simp
         rfl
        refine hK.out _ _ ?_
        clear hK K
        refine done_ (done_of HT_.out (by kernel_rfl)) ?_
        try go_wp2
        go_roundg k1
        case measure => have := HK1.out; omega
        case rel => exact ⟨(wrap64 (x4_1 + 1)), (y391), (.slice Ao16 y391.length co16), (zz7), H', ⟨zz46⟩, ⟨by (with_reducible repeat (first | apply Kd.R_alloc | apply Kd.R_drewN | apply Kd.R_drew)); exact Kd.R_mono (Kd.R_far (p := ⟨gb388, 0, none⟩) (Kd.R_types HO393.out BK388.out (by decide)) (fun _ hk => hk.2) (.slice Ao16 y391.length co16)) (fun _ hk => trivial)⟩, ⟨zz47⟩, ⟨zz48⟩, ⟨by (with_reducible repeat (first | refine blk_drewN ?_ _ | refine blk_drew ?_ | refine blk_alloc ?_ _)); refine blk_put (cs := #[u389000, .slice none 0 0]) ?_ 0 _ rfl; (with_reducible repeat (first | refine blk_drewN ?_ _ | refine blk_drew ?_ | refine blk_alloc ?_ _)); exact BK388.out⟩, ⟨zz9⟩⟩
       ·rw [if_neg c10] at H
        exact absurd H (by simp)
      ·rw [if_neg c8] at H
       exact absurd H (by simp)
     ·rw [if_neg c7] at H
      have c7b0 : decide (x4_1 < 12) = false := decide_eq_false c7
      clear c7
      have H' := Aside0.mk H
      clear H
      have hnb18 := NB386_387.out
      have hnc18 := NB387_386.out
      have hnb19 := NB386_388.out
      have hnc19 := NB388_386.out
      have hcz20_0 : wr.cell? ⟨gb386, 0, none⟩ = some (.slice A0_0 l0_0.length c0_0) := (blk_cell BK386.out 0).trans rfl
      have hcz20_1 : wr.cell? ⟨gb386, 1, none⟩ = some (.slice A0_1 l0_1.length c0_1) := (blk_cell BK386.out 1).trans rfl
      have hfz20_0 := blk_frozen BK386.out 0
      have hfz20_1 := blk_frozen BK386.out 1
      go_wp2
      go_meet
      case rel => exact ⟨_, (x389000_1), (u389000), H', ⟨by have := HK1.out; first | omega | exact Nat.le_refl _⟩, ⟨zz31⟩, ⟨zz15⟩, ⟨zz18⟩, ⟨zz20⟩, ⟨zz9⟩⟩
    ·rw [if_neg c6] at H
     have c6b0 : decide (x4_1 < (l0_0.length : Int)) = false := decide_eq_false c6
     clear c6
     (first | rw [c6b0] | (simp only [i64_w, i32_w]; rw [c6b0]) | skip)
     have H' := Aside0.mk H
     clear H
     have hnb21 := NB386_387.out
     have hnc21 := NB387_386.out
     have hnb22 := NB386_388.out
     have hnc22 := NB388_386.out
     have hcz23_0 : wr.cell? ⟨gb386, 0, none⟩ = some (.slice A0_0 l0_0.length c0_0) := (blk_cell BK386.out 0).trans rfl
     have hcz23_1 : wr.cell? ⟨gb386, 1, none⟩ = some (.slice A0_1 l0_1.length c0_1) := (blk_cell BK386.out 1).trans rfl
     have hfz23_0 := blk_frozen BK386.out 0
     have hfz23_1 := blk_frozen BK386.out 1
     go_wp2
     go_meet
     case rel => exact ⟨_, (x389000_1), (u389000), H', ⟨by have := HK1.out; first | omega | exact Nat.le_refl _⟩, ⟨zz31⟩, ⟨zz15⟩, ⟨zz18⟩, ⟨zz20⟩, ⟨zz9⟩⟩
 case rest =>
  clear HC2
  try clear c1
  try clear c2
  try clear p2
  try clear p3
  try clear q3
  try clear hx3
  try clear c6
  try clear c6b0
  try clear p6
  try clear c7
  try clear c7b0
  try clear c8
  try clear c8b0
  try clear c10
  try clear c11
  try clear c12
  try clear c16
  try clear c18
  try clear c19
  try clear c21
  try clear c22
  try clear hcz13_0
  try clear hcz13_1
  try clear hcz20_0
  try clear hcz20_1
  try clear hcz23_0
  try clear hcz23_1
  try clear hfz13_0
  try clear hfz13_1
  try clear hfz20_0
  try clear hfz20_1
  try clear hfz23_0
  try clear hfz23_1
  try clear hx389_0
  try clear p2
  try clear p389
  try clear q389
  obtain ⟨kq, x389000_1, u389000, HA, HJ1, HO_389000, BK386, BK387, BK388, HB⟩ := hcut
  cases kq with
  | zero => exact absurd HA.out (by simp [L4_small.j1])
  | succ kj1 =>
   have H := HA.out
   clear HA
   simp only [L4_small.j1] at H
   have H' := Aside0.mk H
   clear H
   go_wp2
   go_loopg [5] kj1 (fun kq v5 w' => ∃ (x5_2 : Int) (x389001_2 : List (S41)) (u389001 : Value), v5 = .int .i64 x5_2 ∧ Aside0 (L4_small.l1 kq x5_2 l0_0 l0_1 x389000_1 x389001_2 = some (r1, r2)) ∧ Aside0 (kq ≤ kj1) ∧ Aside0 (Kd.R Kd.string 9 w' w.heap.size (fun _ => True) u389000 x389000_1) ∧ Aside0 (Kd.R k41 41 w' w.heap.size (fun _ => True) u389001 x389001_2) ∧ Aside0 (w'.heap[gb386]? = some (.cells #[(.slice A0_0 l0_0.length c0_0), (.slice A0_1 l0_1.length c0_1)] 27 (0, 0))) ∧ Aside0 (w'.heap[gb387]? = some (.cells #[(.slice none 0 0), (.slice none 0 0)] 27 (0, 0))) ∧ Aside0 (w'.heap[gb388]? = some (.cells #[u389000, u389001] 27 (0, 0))) ∧ Aside0 (Below w.heap.size w w'))
   case atStart => exact ⟨(0), (([] : List (S41))), (.slice none 0 0), (zz7), H', ⟨Nat.le_refl _⟩, ⟨zz31⟩, ⟨by first | exact Kd.R_nil _ _ _ _ _ | exact Kd.N_nil _ _ _ _ _ | exact Kd.V_nil _ _ _ _ _ | exact Kd.Q_nil _ _ _ _ _ | exact Kd.S_nil _ _ _ _ _⟩, ⟨zz15⟩, ⟨zz18⟩, ⟨zz20⟩, ⟨zz9⟩⟩
   case round =>
    clear H'
    try clear c1
    try clear c2
    try clear p2
    try clear p3
    try clear q3
    try clear hx3
    try clear c6
    try clear c6b0
    try clear p6
    try clear c7
    try clear c7b0
    try clear c8
    try clear c8b0
    try clear c10
    try clear c11
    try clear c12
    try clear c16
    try clear c18
    try clear c19
    try clear c21
    try clear c22
    try clear hcz13_0
    try clear hcz13_1
    try clear hcz20_0
    try clear hcz20_1
    try clear hcz23_0
    try clear hcz23_1
    try clear hfz13_0
    try clear hfz13_1
    try clear hfz20_0
    try clear hfz20_1
    try clear hfz23_0
    try clear hfz23_1
    try clear hx389_0
    try clear p2
    try clear p3
    try clear p389
    try clear p6
    try clear q3
    try clear q389
    obtain ⟨x5_2, x389001_2, u389001, rfl, HA, HK2, HO_389000, HO_389001, BK386, BK387, BK388, HB⟩ := hrel
    cases gk with
    | zero => exact absurd HA.out (by simp [L4_small.l1])
    | succ k2 =>
     have H := HA.out
     clear HA
     simp only [L4_small.l1] at H
     by_cases c24 : x5_2 < (l0_1.length : Int)
     ·rw [if_pos c24] at H
      have c24b0 : decide (x5_2 < (l0_1.length : Int)) = true := decide_eq_true c24
      clear c24
      by_cases c25 : x5_2 < 30
      ·rw [if_pos c25] at H
       have c25b0 : decide (x5_2 < 30) = true := decide_eq_true c25
       clear c25
       by_cases c26 : 0 ≤ x5_2
       ·rw [if_pos c26] at H
        have c26b0 : decide (0 ≤ x5_2) = true := decide_eq_true c26
        clear c26
        replace H := Option.bind_eq_some_iff.mp H
        obtain ⟨t396, A270, H⟩ := H
        replace H : (if x389001_2.length < 3518437208883 then (L4_small.l1 k2 (wrap64 (x5_2 + 1)) l0_0 l0_1 x389000_1 (x389001_2 ++ [(⟨(rd_T41 l0_1 x5_2).f0, (rd_T41 l0_1 x5_2).f1, (rd_T41 l0_1 x5_2).f2, t396⟩ : S41)])) else (none)) = some (r1, r2) := H
        have A27 := Aside0.mk A270
        clear A270
        by_cases c28 : x389001_2.length < 3518437208883
        ·rw [if_pos c28] at H
         have LMc28 := Aside0.mk c28
         clear c28
         obtain ⟨y397, hy397⟩ : ∃ y_ : List (S41), y_ = (x389001_2 ++ [(⟨(rd_T41 l0_1 x5_2).f0, (rd_T41 l0_1 x5_2).f1, (rd_T41 l0_1 x5_2).f2, t396⟩ : S41)]) := ⟨_, rfl⟩
         replace H : (L4_small.l1 k2 (wrap64 (x5_2 + 1)) l0_0 l0_1 x389000_1 y397) = some (r1, r2) := by first | (rw [hy397]; with_reducible exact H) | (have H2_ := (Option.bind_some _ _).symm.trans H; rw [hy397]; with_reducible exact H2_) | (have H2_ := (Option.bind_some _ _).symm.trans H; with_reducible exact H2_) | with_reducible exact H | (rw [hy397]; exact H) | exact H
         have Ny397 := Aside0.mk hy397
         clear hy397
         have H' := Aside0.mk H
         clear H
         have hnb29 := NB386_387.out
         have hnc29 := NB387_386.out
         have hnb30 := NB386_388.out
         have hnc30 := NB388_386.out
         have hcz31_0 : wr.cell? ⟨gb386, 0, none⟩ = some (.slice A0_0 l0_0.length c0_0) := (blk_cell BK386.out 0).trans rfl
         have hcz31_1 : wr.cell? ⟨gb386, 1, none⟩ = some (.slice A0_1 l0_1.length c0_1) := (blk_cell BK386.out 1).trans rfl
         have hfz31_0 := blk_frozen BK386.out 0
         have hfz31_1 := blk_frozen BK386.out 1
         have p394 : 0 ≤ (x5_2 : Int) := of_decide_eq_true (zz1)
         have q394 : x5_2 < (l0_1.length : Int) := of_decide_eq_true (zz1)
         obtain ⟨ad394, e394, hx394_0, hx394_1, hx394_2, hx394_3⟩ := at_T41 HR0_1.out x5_2 p394 q394
         cases e394
         replace hx394_0 := (HB.out.cell (World.block_lt_of_cell? w _ hx394_0)).trans hx394_0
         replace hx394_1 := (HB.out.cell (World.block_lt_of_cell? w _ hx394_1)).trans hx394_1
         replace hx394_2 := (HB.out.cell (World.block_lt_of_cell? w _ hx394_2)).trans hx394_2
         replace hx394_3 := (HB.out.cell (World.block_lt_of_cell? w _ hx394_3)).trans hx394_3
         replace p394 := eq_true p394
         replace q394 := eq_true q394
         go_wp2_with (first | ((with_reducible refine gate_dst (N := 6) rfl ?_); refine box_event ?hg (N := 6) ?hd (cs := #[.int .i64 0, .int .i64 0, .int .i64 0, .string (⟨#[]⟩ : ByteArray)]) (t := 41) ?hr ?_; (case hd => rfl); (case hg => rfl); (case hr => first | (go_simp; done) | (go_simp; rfl)); intro gb395 hg w32 hbox hb; have n0_ := Aside0.mk (Kd.R_below (zz31) hb); have n1_ := Aside0.mk (Kd.R_below (Kd.R_elderB (by (with_reducible repeat (first | apply Kd.R_alloc | apply Kd.R_drewN | apply Kd.R_drew)); exact HO_389001.out) gb395 (Nat.le_of_eq hg.symm)) hb); have n2_ := Aside0.mk (blk_below (g := gb386) (o := .cells #[.slice A0_0 l0_0.length c0_0, .slice (some ad394) l0_1.length c0_1] 27 (0, 0)) (zz15) hb); have n3_ := Aside0.mk (blk_below (g := gb387) (o := .cells #[.slice none 0 0, .slice none 0 0] 27 (0, 0)) (zz18) hb); have n4_ := Aside0.mk (blk_below (g := gb388) (o := .cells #[u389000, u389001] 27 (0, 0)) (zz20) hb); have n5_ := Aside0.mk (below_step (zz9) hb); have n6_ := Aside0.mk (hbox); have n7_ := Aside0.mk ((by rw [hg]; exact (below_size (zz9)) : w.heap.size ≤ gb395)); have n8_ := Aside0.mk ((by rw [hg]; exact (below_size (zz9)) : w.heap.size ≤ gb395)); have n9_ := Aside0.mk ((by rw [hg]; exact Nat.ne_of_lt (blk_lt (g := gb386) (o := .cells #[.slice A0_0 l0_0.length c0_0, .slice (some ad394) l0_1.length c0_1] 27 (0, 0)) (zz15)) : gb386 ≠ gb395)); have n10_ := Aside0.mk ((by rw [hg]; exact Nat.ne_of_gt (blk_lt (g := gb386) (o := .cells #[.slice A0_0 l0_0.length c0_0, .slice (some ad394) l0_1.length c0_1] 27 (0, 0)) (zz15)) : gb395 ≠ gb386)); have n11_ := Aside0.mk ((by rw [hg]; exact Nat.ne_of_lt (blk_lt (g := gb387) (o := .cells #[.slice none 0 0, .slice none 0 0] 27 (0, 0)) (zz18)) : gb387 ≠ gb395)); have n12_ := Aside0.mk ((by rw [hg]; exact Nat.ne_of_gt (blk_lt (g := gb387) (o := .cells #[.slice none 0 0, .slice none 0 0] 27 (0, 0)) (zz18)) : gb395 ≠ gb387)); have n13_ := Aside0.mk ((by rw [hg]; exact Nat.ne_of_lt (blk_lt (g := gb388) (o := .cells #[u389000, u389001] 27 (0, 0)) (zz20)) : gb388 ≠ gb395)); have n14_ := Aside0.mk ((by rw [hg]; exact Nat.ne_of_gt (blk_lt (g := gb388) (o := .cells #[u389000, u389001] 27 (0, 0)) (zz20)) : gb395 ≠ gb388)); clear HO_389000; clear HO_389001; clear BK386; clear BK387; clear BK388; clear HB; have HO_389000 := n0_; have HO_389001 := n1_; have BK386 := n2_; have BK387 := n3_; have BK388 := n4_; have HB := n5_; have BK395 := n6_; have GW395 := n7_; have GE395 := n8_; have NB386_395 := n9_; have NB395_386 := n10_; have NB387_395 := n11_; have NB395_387 := n12_; have NB388_395 := n13_; have NB395_388 := n14_; clear n0_ n1_ n2_ n3_ n4_ n5_ n6_ n7_ n8_ n9_ n10_ n11_ n12_ n13_ n14_; clear hb hbox hg; have hnb33 := NB395_386.out; have hnc33 := NB386_395.out; have hnb34 := NB395_387.out; have hnc34 := NB387_395.out; have hnb35 := NB395_388.out; have hnc35 := NB388_395.out; have hcz36_0 : w32.cell? ⟨gb395, 0, none⟩ = some (.int .i64 0) := (blk_cell BK395.out 0).trans rfl; have hcz36_1 : w32.cell? ⟨gb395, 1, none⟩ = some (.int .i64 0) := (blk_cell BK395.out 1).trans rfl; have hcz36_2 : w32.cell? ⟨gb395, 2, none⟩ = some (.int .i64 0) := (blk_cell BK395.out 2).trans rfl; have hcz36_3 : w32.cell? ⟨gb395, 3, none⟩ = some (.string (⟨#[]⟩ : ByteArray)) := (blk_cell BK395.out 3).trans rfl; have hfz36_0 := blk_frozen BK395.out 0; have hfz36_1 := blk_frozen BK395.out 1; have hfz36_2 := blk_frozen BK395.out 2; have hfz36_3 := blk_frozen BK395.out 3) | ((with_reducible refine gate_callee (f := 21) rfl ?_); refine goesL_ (some 47) rfl rfl Tryz.func21 (by kernel_rfl) rfl #[.string ((rd_T41 l0_1 x5_2).f3), .int .i64 20] rfl (zz13) ?_; (with_reducible refine (L4_short.calls ((rd_T41 l0_1 x5_2).f3) 20 t396 _ A27.out).mono ?_); rintro e w' ⟨rfl, ⟨nd, rfl⟩⟩; refine ⟨_, rfl, ?_⟩; have hnb37 := NB388_387.out; have hnc37 := NB387_388.out; have m0_ := Kd.R_drewN (Kd.R_mono (Kd.R_far (p := ⟨gb395, 3, none⟩) (Kd.R_far (p := ⟨gb395, 2, none⟩) (Kd.R_far (p := ⟨gb395, 1, none⟩) (Kd.R_far (p := ⟨gb395, 0, none⟩) (Kd.R_types HO_389000.out BK395.out (by decide)) (fun _ hk => hk.2) (.int .i64 ((rd_T41 l0_1 x5_2).f0))) (fun _ hk => hk.2) (.int .i64 ((rd_T41 l0_1 x5_2).f1))) (fun _ hk => hk.2) (.int .i64 ((rd_T41 l0_1 x5_2).f2))) (fun _ hk => hk.2) (.string ((rd_T41 l0_1 x5_2).f3))) (fun _ h_ => h_.1)) nd; have m1_ := Kd.R_drewN (Kd.R_mono (Kd.R_far (p := ⟨gb395, 3, none⟩) (Kd.R_far (p := ⟨gb395, 2, none⟩) (Kd.R_far (p := ⟨gb395, 1, none⟩) (Kd.R_far (p := ⟨gb395, 0, none⟩) (Kd.R_mono HO_389001.out (fun k_ hk => (⟨hk, hk.2⟩ : _ ∧ k_ ≠ gb395))) (fun _ hk => hk.2) (.int .i64 ((rd_T41 l0_1 x5_2).f0))) (fun _ hk => hk.2) (.int .i64 ((rd_T41 l0_1 x5_2).f1))) (fun _ hk => hk.2) (.int .i64 ((rd_T41 l0_1 x5_2).f2))) (fun _ hk => hk.2) (.string ((rd_T41 l0_1 x5_2).f3))) (fun _ hk => hk.1)) nd; have m2_ := blk_drewN (blk_far (p := ⟨gb395, 3, none⟩) (blk_far (p := ⟨gb395, 2, none⟩) (blk_far (p := ⟨gb395, 1, none⟩) (blk_far (p := ⟨gb395, 0, none⟩) BK386.out NB386_395.out (.int .i64 ((rd_T41 l0_1 x5_2).f0))) NB386_395.out (.int .i64 ((rd_T41 l0_1 x5_2).f1))) NB386_395.out (.int .i64 ((rd_T41 l0_1 x5_2).f2))) NB386_395.out (.string ((rd_T41 l0_1 x5_2).f3))) nd; have m3_ := blk_drewN (blk_far (p := ⟨gb395, 3, none⟩) (blk_far (p := ⟨gb395, 2, none⟩) (blk_far (p := ⟨gb395, 1, none⟩) (blk_far (p := ⟨gb395, 0, none⟩) BK387.out NB387_395.out (.int .i64 ((rd_T41 l0_1 x5_2).f0))) NB387_395.out (.int .i64 ((rd_T41 l0_1 x5_2).f1))) NB387_395.out (.int .i64 ((rd_T41 l0_1 x5_2).f2))) NB387_395.out (.string ((rd_T41 l0_1 x5_2).f3))) nd; have m4_ := blk_drewN (blk_far (p := ⟨gb395, 3, none⟩) (blk_far (p := ⟨gb395, 2, none⟩) (blk_far (p := ⟨gb395, 1, none⟩) (blk_far (p := ⟨gb395, 0, none⟩) BK388.out NB388_395.out (.int .i64 ((rd_T41 l0_1 x5_2).f0))) NB388_395.out (.int .i64 ((rd_T41 l0_1 x5_2).f1))) NB388_395.out (.int .i64 ((rd_T41 l0_1 x5_2).f2))) NB388_395.out (.string ((rd_T41 l0_1 x5_2).f3))) nd; have m5_ : (((((w32.setCell ⟨gb395, 0, none⟩ (.int .i64 ((rd_T41 l0_1 x5_2).f0))).setCell ⟨gb395, 1, none⟩ (.int .i64 ((rd_T41 l0_1 x5_2).f1))).setCell ⟨gb395, 2, none⟩ (.int .i64 ((rd_T41 l0_1 x5_2).f2))).setCell ⟨gb395, 3, none⟩ (.string ((rd_T41 l0_1 x5_2).f3))).drewN nd).heap[gb395]? = some (.cells #[.int .i64 ((rd_T41 l0_1 x5_2).f0), .int .i64 ((rd_T41 l0_1 x5_2).f1), .int .i64 ((rd_T41 l0_1 x5_2).f2), .string ((rd_T41 l0_1 x5_2).f3)] 41 (0, 0)) := blk_drewN (blk_set (blk_set (blk_set (blk_set BK395.out 0 (.int .i64 ((rd_T41 l0_1 x5_2).f0))) 1 (.int .i64 ((rd_T41 l0_1 x5_2).f1))) 2 (.int .i64 ((rd_T41 l0_1 x5_2).f2))) 3 (.string ((rd_T41 l0_1 x5_2).f3))) nd; have m6_ := pw_below_drewN (below_set (j := 3) (v := (.string ((rd_T41 l0_1 x5_2).f3))) (below_set (j := 2) (v := (.int .i64 ((rd_T41 l0_1 x5_2).f2))) (below_set (j := 1) (v := (.int .i64 ((rd_T41 l0_1 x5_2).f1))) (below_set (j := 0) (v := (.int .i64 ((rd_T41 l0_1 x5_2).f0))) HB.out GE395.out) GE395.out) GE395.out) GE395.out) nd; clear HO_389000 HO_389001 BK386 BK387 BK388 BK395 HB; generalize ((((w32.setCell ⟨gb395, 0, none⟩ (.int .i64 ((rd_T41 l0_1 x5_2).f0))).setCell ⟨gb395, 1, none⟩ (.int .i64 ((rd_T41 l0_1 x5_2).f1))).setCell ⟨gb395, 2, none⟩ (.int .i64 ((rd_T41 l0_1 x5_2).f2))).setCell ⟨gb395, 3, none⟩ (.string ((rd_T41 l0_1 x5_2).f3))).drewN nd = V at m0_ m1_ m2_ m3_ m4_ m5_ m6_ ⊢; have HO_389000 := Aside0.mk m0_; have HO_389001 := Aside0.mk m1_; have BK386 := Aside0.mk m2_; have BK387 := Aside0.mk m3_; have BK388 := Aside0.mk m4_; have BK395 := Aside0.mk m5_; have HB := Aside0.mk m6_; clear m0_ m1_ m2_ m3_ m4_ m5_ m6_; have hcz38_0 : V.cell? ⟨gb388, 0, none⟩ = some (u389000) := (blk_cell BK388.out 0).trans rfl; have hcz38_1 : V.cell? ⟨gb388, 1, none⟩ = some (u389001) := (blk_cell BK388.out 1).trans rfl; have hfz38_0 := blk_frozen BK388.out 0; have hfz38_1 := blk_frozen BK388.out 1; have hbz_0 : V.cell? ⟨gb395, 0, none⟩ = some (.int .i64 ((rd_T41 l0_1 x5_2).f0)) := (blk_cell BK395.out 0).trans rfl; have hbf_0 := blk_frozen BK395.out 0; have hbz_1 : V.cell? ⟨gb395, 1, none⟩ = some (.int .i64 ((rd_T41 l0_1 x5_2).f1)) := (blk_cell BK395.out 1).trans rfl; have hbf_1 := blk_frozen BK395.out 1; have hbz_2 : V.cell? ⟨gb395, 2, none⟩ = some (.int .i64 ((rd_T41 l0_1 x5_2).f2)) := (blk_cell BK395.out 2).trans rfl; have hbf_2 := blk_frozen BK395.out 2; have hbz_3 : V.cell? ⟨gb395, 3, none⟩ = some (.string ((rd_T41 l0_1 x5_2).f3)) := (blk_cell BK395.out 3).trans rfl; have hbf_3 := blk_frozen BK395.out 3) | ((with_reducible refine gate_builtin (b := .append) (xs := #[.tmp 50, .tmp 52]) rfl ?_); at_builtin; refine Kd.R_append k41 (w0 := w) w.heap.size rfl (.tmp 50) (.tmp 52) 25 41 (.agg #[(.int .i64 0), (.int .i64 0), (.int .i64 0), (.string ⟨#[]⟩)]) 40 rfl Tryz.underlying25 info41 rfl (by decide) (by omega) u389001 x389001_2 (⟨(rd_T41 l0_1 x5_2).f0, (rd_T41 l0_1 x5_2).f1, (rd_T41 l0_1 x5_2).f2, t396⟩ : S41) [.int .i64 ((rd_T41 l0_1 x5_2).f0), .int .i64 ((rd_T41 l0_1 x5_2).f1), .int .i64 ((rd_T41 l0_1 x5_2).f2), .string t396] (fun k_ => k_ ≠ gb395) (fun _ => False) rfl (by first | (go_simp; done) | (go_simp; rfl)) ?aP (fun _ hk => hk.elim) ?aF ?aO ?aB ?aS ?aL ?_; (case aP => exact k41_mkM _ _ _ (⟨(rd_T41 l0_1 x5_2).f0, (rd_T41 l0_1 x5_2).f1, (rd_T41 l0_1 x5_2).f2, t396⟩ : S41)); (case aB => exact (zz24)); (case aF => exact (fun k_ hk => Kd.freshB (g := gb395) (o := .cells #[.int .i64 ((rd_T41 l0_1 x5_2).f0), .int .i64 ((rd_T41 l0_1 x5_2).f1), .int .i64 ((rd_T41 l0_1 x5_2).f2), .string t396] 41 (0, 0)) (by (with_reducible repeat (first | refine blk_drewN ?_ _ | refine blk_drew ?_ | refine blk_alloc ?_ _)); refine blk_put (cs := #[.int .i64 ((rd_T41 l0_1 x5_2).f0), .int .i64 ((rd_T41 l0_1 x5_2).f1), .int .i64 ((rd_T41 l0_1 x5_2).f2), .string ((rd_T41 l0_1 x5_2).f3)]) ?_ 3 _ rfl; (with_reducible repeat (first | refine blk_drewN ?_ _ | refine blk_drew ?_ | refine blk_alloc ?_ _)); exact BK395.out) k_ hk)); (case aO => exact (by (with_reducible repeat (first | apply Kd.R_alloc | apply Kd.R_drewN | apply Kd.R_drew)); exact Kd.R_mono (Kd.R_far (p := ⟨gb395, 3, none⟩) (Kd.R_mono HO_389001.out (fun k_ hk => (⟨hk, hk.2⟩ : _ ∧ k_ ≠ gb395))) (fun _ hk => hk.2) (.string t396)) (fun _ hk => hk.1.2))); (case aS => exact (below_size (zz24))); (case aL => have := LMc28.out; omega); intro v398 w39 ho hb hg hat; rw [← Ny397.out] at ho; have n0_ := Aside0.mk (Kd.R_over' (by (with_reducible repeat (first | apply Kd.R_alloc | apply Kd.R_drewN | apply Kd.R_drew)); exact (Kd.R_mono (Kd.R_far (p := ⟨gb395, 3, none⟩) (Kd.R_types HO_389000.out BK395.out (by decide)) (fun _ hk => hk.2) (.string t396)) (fun _ h_ => h_.1))) (Kd.R_typed (by (with_reducible repeat (first | apply Kd.R_alloc | apply Kd.R_drewN | apply Kd.R_drew)); exact (Kd.R_mono (Kd.R_far (p := ⟨gb395, 3, none⟩) (Kd.R_mono HO_389001.out (fun k_ hk => (⟨hk, hk.2⟩ : _ ∧ k_ ≠ gb395))) (fun _ hk => hk.2) (.string t396)) (fun _ h_ => h_.1)))) (by decide) hg); have n1_ := Aside0.mk (blk_grown (g := gb386) (o := .cells #[.slice A0_0 l0_0.length c0_0, .slice (some ad394) l0_1.length c0_1] 27 (0, 0)) (by (with_reducible repeat (first | refine blk_drewN ?_ _ | refine blk_drew ?_ | refine blk_alloc ?_ _)); refine blk_far ?_ NB386_395.out _; (with_reducible repeat (first | refine blk_drewN ?_ _ | refine blk_drew ?_ | refine blk_alloc ?_ _)); exact BK386.out) hg (Kd.R_ne HO_389001.out BK386.out (by decide))); have n2_ := Aside0.mk (blk_grown (g := gb387) (o := .cells #[.slice none 0 0, .slice none 0 0] 27 (0, 0)) (by (with_reducible repeat (first | refine blk_drewN ?_ _ | refine blk_drew ?_ | refine blk_alloc ?_ _)); refine blk_far ?_ NB387_395.out _; (with_reducible repeat (first | refine blk_drewN ?_ _ | refine blk_drew ?_ | refine blk_alloc ?_ _)); exact BK387.out) hg (Kd.R_ne HO_389001.out BK387.out (by decide))); have n3_ := Aside0.mk (blk_grown (g := gb388) (o := .cells #[u389000, u389001] 27 (0, 0)) (by (with_reducible repeat (first | refine blk_drewN ?_ _ | refine blk_drew ?_ | refine blk_alloc ?_ _)); refine blk_far ?_ NB388_395.out _; (with_reducible repeat (first | refine blk_drewN ?_ _ | refine blk_drew ?_ | refine blk_alloc ?_ _)); exact BK388.out) hg (Kd.R_ne HO_389001.out BK388.out (by decide))); have n4_ := Aside0.mk (blk_grown (g := gb395) (o := .cells #[.int .i64 ((rd_T41 l0_1 x5_2).f0), .int .i64 ((rd_T41 l0_1 x5_2).f1), .int .i64 ((rd_T41 l0_1 x5_2).f2), .string t396] 41 (0, 0)) (by (with_reducible repeat (first | refine blk_drewN ?_ _ | refine blk_drew ?_ | refine blk_alloc ?_ _)); refine blk_put (cs := #[.int .i64 ((rd_T41 l0_1 x5_2).f0), .int .i64 ((rd_T41 l0_1 x5_2).f1), .int .i64 ((rd_T41 l0_1 x5_2).f2), .string ((rd_T41 l0_1 x5_2).f3)]) ?_ 3 _ rfl; (with_reducible repeat (first | refine blk_drewN ?_ _ | refine blk_drew ?_ | refine blk_alloc ?_ _)); exact BK395.out) hg (Kd.R_away HO_389001.out (fun _ hk => hk.2))); have n5_ := Aside0.mk (hb); have n6_ := Aside0.mk (ho); clear HO_389000; clear BK386; clear BK387; clear BK388; clear BK395; clear HB; clear HO_389001; have HO_389000 := n0_; have BK386 := n1_; have BK387 := n2_; have BK388 := n3_; have BK395 := n4_; have HB := n5_; have HO399 := n6_; clear n0_ n1_ n2_ n3_ n4_ n5_ n6_; clear ho hb hg hat; obtain ⟨Ao40, co40, eo40⟩ := Kd.R_slice HO399.out; subst eo40; have hcz41_0 : w39.cell? ⟨gb388, 0, none⟩ = some (u389000) := (blk_cell BK388.out 0).trans rfl; have hcz41_1 : w39.cell? ⟨gb388, 1, none⟩ = some (u389001) := (blk_cell BK388.out 1).trans rfl; have hfz41_0 := blk_frozen BK388.out 0; have hfz41_1 := blk_frozen BK388.out 1))
         go_roundg k2
         case measure => have := HJ1.out; have := HK2.out; omega
         case rel => exact ⟨(wrap64 (x5_2 + 1)), (y397), (.slice Ao40 y397.length co40), (zz7), H', ⟨by have := HJ1.out; have := HK2.out; omega⟩, ⟨by (with_reducible repeat (first | apply Kd.R_alloc | apply Kd.R_drewN | apply Kd.R_drew)); exact Kd.R_mono (Kd.R_far (p := ⟨gb388, 1, none⟩) (Kd.R_types HO_389000.out BK388.out (by decide)) (fun _ hk => hk.2) (.slice Ao40 y397.length co40)) (fun _ hk => trivial)⟩, ⟨by (with_reducible repeat (first | apply Kd.R_alloc | apply Kd.R_drewN | apply Kd.R_drew)); exact Kd.R_mono (Kd.R_far (p := ⟨gb388, 1, none⟩) (Kd.R_types HO399.out BK388.out (by decide)) (fun _ hk => hk.2) (.slice Ao40 y397.length co40)) (fun _ hk => trivial)⟩, ⟨zz47⟩, ⟨zz48⟩, ⟨by (with_reducible repeat (first | refine blk_drewN ?_ _ | refine blk_drew ?_ | refine blk_alloc ?_ _)); refine blk_put (cs := #[u389000, u389001]) ?_ 1 _ rfl; (with_reducible repeat (first | refine blk_drewN ?_ _ | refine blk_drew ?_ | refine blk_alloc ?_ _)); exact BK388.out⟩, ⟨zz24⟩⟩
        ·rw [if_neg c28] at H
         exact absurd H (by simp)
       ·rw [if_neg c26] at H
        exact absurd H (by simp)
      ·rw [if_neg c25] at H
       have c25b0 : decide (x5_2 < 30) = false := decide_eq_false c25
       clear c25
       simp only [Option.some.injEq, Prod.mk.injEq] at H
       obtain ⟨rfl, rfl⟩ := H
       have hnb42 := NB386_387.out
       have hnc42 := NB387_386.out
       have hnb43 := NB386_388.out
       have hnc43 := NB388_386.out
       have hcz44_0 : wr.cell? ⟨gb386, 0, none⟩ = some (.slice A0_0 l0_0.length c0_0) := (blk_cell BK386.out 0).trans rfl
       have hcz44_1 : wr.cell? ⟨gb386, 1, none⟩ = some (.slice A0_1 l0_1.length c0_1) := (blk_cell BK386.out 1).trans rfl
       have hfz44_0 := blk_frozen BK386.out 0
       have hfz44_1 := blk_frozen BK386.out 1
       have hnb45 := NB388_387.out
       have hnc45 := NB387_388.out
       have hcz46_0 : wr.cell? ⟨gb388, 0, none⟩ = some (u389000) := (blk_cell BK388.out 0).trans rfl
       have hcz46_1 : wr.cell? ⟨gb388, 1, none⟩ = some (u389001) := (blk_cell BK388.out 1).trans rfl
       have hfz46_0 := blk_frozen BK388.out 0
       have hfz46_1 := blk_frozen BK388.out 1
       obtain ⟨Ao47, co47, eo47⟩ := Kd.R_slice HO_389000.out
       subst eo47
       have hcz48_0 : wr.cell? ⟨gb387, 0, none⟩ = some (.slice none 0 0) := (blk_cell BK387.out 0).trans rfl
       have hcz48_1 : wr.cell? ⟨gb387, 1, none⟩ = some (.slice none 0 0) := (blk_cell BK387.out 1).trans rfl
       have hfz48_0 := blk_frozen BK387.out 0
       have hfz48_1 := blk_frozen BK387.out 1
       obtain ⟨Ao49, co49, eo49⟩ := Kd.R_slice HO_389001.out
       subst eo49
       go_wp2
       refine bodyPost_ret (results_cell_row rfl _ _ gb387 27 #[.slice Ao47 x389000_1.length co47, .slice Ao49 x389001_2.length co49] (0, 0) _ rfl (by (with_reducible repeat (first | refine blk_drewN ?_ _ | refine blk_drew ?_ | refine blk_alloc ?_ _)); refine blk_put (cs := #[.slice Ao47 x389000_1.length co47, .slice none 0 0]) ?_ 1 _ rfl; (with_reducible repeat (first | refine blk_drewN ?_ _ | refine blk_drew ?_ | refine blk_alloc ?_ _)); refine blk_put (cs := #[.slice none 0 0, .slice none 0 0]) ?_ 0 _ rfl; (with_reducible repeat (first | refine blk_drewN ?_ _ | refine blk_drew ?_ | refine blk_alloc ?_ _)); exact BK387.out) Tryz.underlying27 rfl (by kernel_rfl)) rfl ?_
       exact ⟨_, _, zz11, by (with_reducible repeat (first | apply Kd.R_alloc | apply Kd.R_drewN | apply Kd.R_drew)); exact Kd.R_mono (Kd.R_far (p := ⟨gb387, 1, none⟩) (Kd.R_far (p := ⟨gb387, 0, none⟩) (Kd.R_types HO_389000.out BK387.out (by decide)) (fun _ hk => hk.2) (.slice Ao47 x389000_1.length co47)) (fun _ hk => hk.2) (.slice Ao49 x389001_2.length co49)) (fun _ hk => trivial), by (with_reducible repeat (first | apply Kd.R_alloc | apply Kd.R_drewN | apply Kd.R_drew)); exact Kd.R_mono (Kd.R_far (p := ⟨gb387, 1, none⟩) (Kd.R_far (p := ⟨gb387, 0, none⟩) (Kd.R_types HO_389001.out BK387.out (by decide)) (fun _ hk => hk.2) (.slice Ao47 x389000_1.length co47)) (fun _ hk => hk.2) (.slice Ao49 x389001_2.length co49)) (fun _ hk => trivial), zz9⟩
     ·rw [if_neg c24] at H
      have c24b0 : decide (x5_2 < (l0_1.length : Int)) = false := decide_eq_false c24
      clear c24
      simp only [Option.some.injEq, Prod.mk.injEq] at H
      obtain ⟨rfl, rfl⟩ := H
      have hnb50 := NB386_387.out
      have hnc50 := NB387_386.out
      have hnb51 := NB386_388.out
      have hnc51 := NB388_386.out
      have hcz52_0 : wr.cell? ⟨gb386, 0, none⟩ = some (.slice A0_0 l0_0.length c0_0) := (blk_cell BK386.out 0).trans rfl
      have hcz52_1 : wr.cell? ⟨gb386, 1, none⟩ = some (.slice A0_1 l0_1.length c0_1) := (blk_cell BK386.out 1).trans rfl
      have hfz52_0 := blk_frozen BK386.out 0
      have hfz52_1 := blk_frozen BK386.out 1
      have hnb53 := NB388_387.out
      have hnc53 := NB387_388.out
      have hcz54_0 : wr.cell? ⟨gb388, 0, none⟩ = some (u389000) := (blk_cell BK388.out 0).trans rfl
      have hcz54_1 : wr.cell? ⟨gb388, 1, none⟩ = some (u389001) := (blk_cell BK388.out 1).trans rfl
      have hfz54_0 := blk_frozen BK388.out 0
      have hfz54_1 := blk_frozen BK388.out 1
      obtain ⟨Ao55, co55, eo55⟩ := Kd.R_slice HO_389000.out
      subst eo55
      have hcz56_0 : wr.cell? ⟨gb387, 0, none⟩ = some (.slice none 0 0) := (blk_cell BK387.out 0).trans rfl
      have hcz56_1 : wr.cell? ⟨gb387, 1, none⟩ = some (.slice none 0 0) := (blk_cell BK387.out 1).trans rfl
      have hfz56_0 := blk_frozen BK387.out 0
      have hfz56_1 := blk_frozen BK387.out 1
      obtain ⟨Ao57, co57, eo57⟩ := Kd.R_slice HO_389001.out
      subst eo57
      go_wp2
      refine bodyPost_ret (results_cell_row rfl _ _ gb387 27 #[.slice Ao55 x389000_1.length co55, .slice Ao57 x389001_2.length co57] (0, 0) _ rfl (by (with_reducible repeat (first | refine blk_drewN ?_ _ | refine blk_drew ?_ | refine blk_alloc ?_ _)); refine blk_put (cs := #[.slice Ao55 x389000_1.length co55, .slice none 0 0]) ?_ 1 _ rfl; (with_reducible repeat (first | refine blk_drewN ?_ _ | refine blk_drew ?_ | refine blk_alloc ?_ _)); refine blk_put (cs := #[.slice none 0 0, .slice none 0 0]) ?_ 0 _ rfl; (with_reducible repeat (first | refine blk_drewN ?_ _ | refine blk_drew ?_ | refine blk_alloc ?_ _)); exact BK387.out) Tryz.underlying27 rfl (by kernel_rfl)) rfl ?_
      exact ⟨_, _, zz11, by (with_reducible repeat (first | apply Kd.R_alloc | apply Kd.R_drewN | apply Kd.R_drew)); exact Kd.R_mono (Kd.R_far (p := ⟨gb387, 1, none⟩) (Kd.R_far (p := ⟨gb387, 0, none⟩) (Kd.R_types HO_389000.out BK387.out (by decide)) (fun _ hk => hk.2) (.slice Ao55 x389000_1.length co55)) (fun _ hk => hk.2) (.slice Ao57 x389001_2.length co57)) (fun _ hk => trivial), by (with_reducible repeat (first | apply Kd.R_alloc | apply Kd.R_drewN | apply Kd.R_drew)); exact Kd.R_mono (Kd.R_far (p := ⟨gb387, 1, none⟩) (Kd.R_far (p := ⟨gb387, 0, none⟩) (Kd.R_types HO_389001.out BK387.out (by decide)) (fun _ hk => hk.2) (.slice Ao55 x389000_1.length co55)) (fun _ hk => hk.2) (.slice Ao57 x389001_2.length co57)) (fun _ hk => trivial), zz9⟩
end Go.Proofs.YtlhhhlimjajnlaaGreat.Q
end
