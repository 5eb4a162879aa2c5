/- Parts of the proof of parserTrees_holds, kept and merged by a program of mine (wip/tools/slim.py) out of my texts: Q16 -/
import Derived.Test.YtlhhhlimjajnlaaGreatSPt0
import Derived.Test.YtlhhhlimjajnlaaGreatSPt4
import Derived.Test.YtlhhhlimjajnlaaGreatSPt25
import Derived.Test.YtlhhhlimjajnlaaGreatSPt26
section
namespace Go.Proofs.YtlhhhlimjajnlaaGreat.X
end Go.Proofs.YtlhhhlimjajnlaaGreat.X
namespace Go.Proofs.YtlhhhlimjajnlaaGreat.Q
open Go.RowKit Go.Proofs.YtlhhhlimjajnlaaGreatW.PrintWords Go.Proofs.YtlhhhlimjajnlaaGreatW.PrintLast Go.Proofs.YtlhhhlimjajnlaaGreatW.PrintMore
attribute [local go_sem] max2_int min2_int max_two min_two max_three min_three max_four min_four   
open Go.Proofs.YtlhhhlimjajnlaaGreat.X
set_option linter.unusedVariables false
set_option linter.unusedSimpArgs false
attribute [local go_sem high] eqA41
mutual
def R3_limited.l0 : Nat → List (S104) → List Int → Int → List ByteArray → Option (List ByteArray × (List (S41)) × Int)
 | 0, _, _, _, _ => none
 | k + 1, x0, x5, x6, x307000 => if x6 < (x0.length : Int) then (if 0 ≤ x6 then (if ((rd_T104 x0 x6).f0.f2) ≥ 0 then (if 0 ≤ ((rd_T104 x0 x6).f0.f2) then (if ((rd_T104 x0 x6).f0.f2) < (x5.length : Int) then (R3_limited.j1 k x0 x5 x6 (wrap64 ((rd x5 ((rd_T104 x0 x6).f0.f2)) + 1)) x307000 ((rd_T104 x0 x6).f0.f0) ((rd_T104 x0 x6).f0.f1) ((rd_T104 x0 x6).f0.f2) ((rd_T104 x0 x6).f0.f3) ((rd_T104 x0 x6).f1)) else (none)) else (none)) else (R3_limited.j1 k x0 x5 x6 0 x307000 ((rd_T104 x0 x6).f0.f0) ((rd_T104 x0 x6).f0.f1) ((rd_T104 x0 x6).f0.f2) ((rd_T104 x0 x6).f0.f3) ((rd_T104 x0 x6).f1))) else (none)) else (if (x307000.length : Int) > 1000 then (some (([] : List ByteArray), ([] : List (S41)), 18)) else (R3_limited.l1 k x0 0 x307000 ([] : List (S41))))
def R3_limited.j1 : Nat → List (S104) → List Int → Int → Int → List ByteArray → Int → Int → Int → ByteArray → ByteArray → Option (List ByteArray × (List (S41)) × Int)
 | 0, _, _, _, _, _, _, _, _, _, _ => none
 | k + 1, x0, x5, x6, x8, x307000, x309000, x309001, x309002, x309003, x309004 => if x5.length < 17592186044416 then ((some (x5 ++ [x8] : List Int)).bind fun y310 => (if x309000 = 1 then (R3_limited.j2 k x0 y310 x6 (decide (x8 > 64)) x307000 x309000 x309001 x309002 x309003 x309004) else (R3_limited.j2 k x0 y310 x6 false x307000 x309000 x309001 x309002 x309003 x309004))) else (none)
def R3_limited.j2 : Nat → List (S104) → List Int → Int → Bool → List ByteArray → Int → Int → Int → ByteArray → ByteArray → Option (List ByteArray × (List (S41)) × Int)
 | 0, _, _, _, _, _, _, _, _, _, _ => none
 | k + 1, x0, x5, x6, x47, x307000, x309000, x309001, x309002, x309003, x309004 => if x47 = true then (some (([] : List ByteArray), ([] : List (S41)), 18)) else (if x309000 = 3 then (R3_limited.l0 k x0 x5 (wrap64 (x6 + 1)) x307000) else ((R3_with.f k x307000 x309004).bind fun t313 => (R3_limited.l0 k x0 x5 (wrap64 (x6 + 1)) t313)))
def R3_limited.l1 : Nat → List (S104) → Int → List ByteArray → List (S41) → Option (List ByteArray × (List (S41)) × Int)
 | 0, _, _, _, _ => none
 | k + 1, x0, x9, x307000, x307001 => if x9 < (x0.length : Int) then (if 0 ≤ x9 then (if ((rd_T104 x0 x9).f0.f0) = 3 then (if x307001.length < 3518437208883 then (R3_limited.l1 k x0 (wrap64 (x9 + 1)) x307000 (x307001 ++ [(⟨(rd_T104 x0 x9).f0.f0, (rd_T104 x0 x9).f0.f1, (rd_T104 x0 x9).f0.f2, (rd_T104 x0 x9).f0.f3⟩ : S41)])) else (none)) else ((R3_Number.f k x307000 ((rd_T104 x0 x9).f1)).bind fun t322 => (if x307001.length < 3518437208883 then (R3_limited.l1 k x0 (wrap64 (x9 + 1)) x307000 (x307001 ++ [(⟨(rd_T104 x0 x9).f0.f0, t322, (rd_T104 x0 x9).f0.f2, (rd_T104 x0 x9).f0.f3⟩ : S41)])) else (none)))) else (none)) else (some (x307000, x307001, 0))
end
def R3_limited.f (k : Nat) (l0 : List (S104)) : Option (List ByteArray × (List (S41)) × Int) := if (l0.length : Int) > 5000 then (some (([] : List ByteArray), ([] : List (S41)), 18)) else (R3_limited.l0 k l0 ([] : List Int) 0 ([] : List ByteArray))
theorem R3_limited.mono_l : ∀ k, (∀ y0 y1 y2 y3, LeO (R3_limited.l0 k y0 y1 y2 y3) (R3_limited.l0 (k + 1) y0 y1 y2 y3)) ∧ (∀ y0 y1 y2 y3 y4 y5 y6 y7 y8 y9, LeO (R3_limited.j1 k y0 y1 y2 y3 y4 y5 y6 y7 y8 y9) (R3_limited.j1 (k + 1) y0 y1 y2 y3 y4 y5 y6 y7 y8 y9)) ∧ (∀ y0 y1 y2 y3 y4 y5 y6 y7 y8 y9, LeO (R3_limited.j2 k y0 y1 y2 y3 y4 y5 y6 y7 y8 y9) (R3_limited.j2 (k + 1) y0 y1 y2 y3 y4 y5 y6 y7 y8 y9)) ∧ (∀ y0 y1 y2 y3, LeO (R3_limited.l1 k y0 y1 y2 y3) (R3_limited.l1 (k + 1) y0 y1 y2 y3))
 | 0 => ⟨fun _ _ _ _ r h => by simp [R3_limited.l0] at h, fun _ _ _ _ _ _ _ _ _ _ r h => by simp [R3_limited.j1] at h, fun _ _ _ _ _ _ _ _ _ _ r h => by simp [R3_limited.j2] at h, fun _ _ _ _ r h => by simp [R3_limited.l1] at h⟩
 | k + 1 => by
  obtain ⟨ih0, ih1, ih2, ih3⟩ := R3_limited.mono_l k
  refine ⟨?_, ?_, ?_, ?_⟩
  ·intro y0 y1 y2 y3
   unfold R3_limited.l0
   have mo0 := @R3_Number.mono; have mo1 := @R3_with.mono; exact leT
  ·intro y0 y1 y2 y3 y4 y5 y6 y7 y8 y9
   unfold R3_limited.j1
   have mo0 := @R3_Number.mono; have mo1 := @R3_with.mono; exact leT
  ·intro y0 y1 y2 y3 y4 y5 y6 y7 y8 y9
   unfold R3_limited.j2
   have mo0 := @R3_Number.mono; have mo1 := @R3_with.mono; exact leT
  ·intro y0 y1 y2 y3
   unfold R3_limited.l1
   have mo0 := @R3_Number.mono; have mo1 := @R3_with.mono; exact leT
theorem R3_limited.mono : ∀ a0 k, LeO (R3_limited.f k a0) (R3_limited.f (k + 1) a0) := by
 intro a0 k
 obtain ⟨ih0, ih1, ih2, ih3⟩ := R3_limited.mono_l k
 unfold R3_limited.f
 have mo0 := @R3_Number.mono; have mo1 := @R3_with.mono; exact leT
def R3_limited.T24 : Bool × List (List Nat × List Nat) := (true, [([], []), ([0], [0]), ([], []), ([], []), ([2, 3], [2, 3]), ([4], [4]), ([5], [5]), ([1, 6], [1, 6]), ([0, 1, 2, 3, 4, 5, 6, 7], []), ([8, 7, 7, 0, 1, 2, 3, 4, 5, 6, 7], [7, 8])])
def R3_limited.B24 : List Nat := [0, 1, 0, 0, 12, 28, 60, 127, 255, 511]
theorem R3_limited.tab24 : rtab .any (opsOf Tryz.f36 24) = R3_limited.T24 := by kernel_rfl
theorem R3_limited.bits24 : waitsOk R3_limited.T24.2 R3_limited.B24 = true := by kernel_rfl
set_option maxHeartbeats 8000000 in
set_option maxRecDepth 100000 in
theorem R3_limited.calls (k : Nat) (A0 : Option Addr) (c0 : Nat) (l0 : List (S104)) (r1 : List ByteArray) (r2 : List (S41)) (r3 : Int) (w : World) (hr0 : Kd.C k104 w A0 l0.length l0) (hc0 : l0.length ≤ c0) (h : R3_limited.f k l0 = some (r1, r2, r3)) :
 Calls Tryz.prog 36 #[.slice A0 l0.length c0] w fun e w' => ∃ v0_ v1_ : Value, e = .returned (.tuple #[.agg #[v0_, v1_], .int .i64 r3]) ∧ Kd.R Kd.string 9 w' w.heap.size (fun _ => True) v0_ r1 ∧ Kd.R k41 41 w' w.heap.size (fun _ => True) v1_ r2 ∧ Below w.heap.size w w' := by
 have hu27 := Tryz.underlying27
 have hu104 := Tryz.underlying104
 have hu41 := Tryz.underlying41
 have HR0 := Aside0.mk hr0
 have HC0 := Aside0.mk hc0
 clear hr0 hc0
 have HB := Aside0.mk (Below.refl w.heap.size w)
 have H : (if (l0.length : Int) > 5000 then (some (([] : List ByteArray), ([] : List (S41)), 18)) else (R3_limited.l0 k l0 ([] : List Int) 0 ([] : List ByteArray))) = some (r1, r2, r3) := h
 clear h
 by_cases c2 : (l0.length : Int) > 5000
 ·rw [if_pos c2] at H
  have c2b0 : decide (5000 < (l0.length : Int)) = true := decide_eq_true c2
  have c2b1 : decide (5000 < l0.length) = true := decide_eq_true (by omega)
  clear c2
  simp only [Option.some.injEq, Prod.mk.injEq] at H
  obtain ⟨rfl, rfl, rfl⟩ := H
  go_enter Tryz.func36, Tryz.ntmps36
  go_wp2_with ((((with_reducible refine gate_dst (N := 2) rfl ?_); refine box_event ?hg (N := 2) ?hd (cs := #[.slice none 0 0, .slice none 0 0]) (t := 27) ?hr ?_; (case hd => rfl); (case hg => rfl); (case hr => ((go_simp; done))); intro gb305 hg w3 hbox hb; have n0_ := Aside0.mk (below_step (zz0) hb); have n1_ := Aside0.mk (hbox); have n2_ := Aside0.mk ((zz18 : w.heap.size ≤ gb305)); have n3_ := Aside0.mk ((zz18 : w.heap.size ≤ gb305)); clear HB; have HB := n0_; have BK305 := n1_; have GW305 := n2_; have GE305 := n3_; clear n0_ n1_ n2_ n3_; clear hb hbox hg; have hcz4_0 : w3.cell? ⟨gb305, 0, none⟩ = some (.slice none 0 0) := (blk_cell BK305.out 0).trans rfl; have hcz4_1 : w3.cell? ⟨gb305, 1, none⟩ = some (.slice none 0 0) := (blk_cell BK305.out 1).trans rfl; have hfz4_0 := blk_frozen BK305.out 0; have hfz4_1 := blk_frozen BK305.out 1)))
  refine bodyPost_ret (results_ct rfl _ _ gb305 27 #[.slice none 0 0, .slice none 0 0] (0, 0) _ rfl (zz20) Tryz.underlying27 rfl (by kernel_rfl)) rfl ?_
  exact ⟨_, _, by rfl, zz33, zz33, by repeat (((with_reducible first | exact HB.out | refine below_set ?_ GE305.out)))⟩
 ·rw [if_neg c2] at H
  have c2b0 : decide (5000 < (l0.length : Int)) = false := decide_eq_false c2
  have c2b1 : decide (5000 < l0.length) = false := decide_eq_false (by omega)
  clear c2
  have H' := Aside0.mk H
  clear H
  go_enter Tryz.func36, Tryz.ntmps36
  go_wp2_with (first | ((with_reducible refine gate_dst (N := 2) rfl ?_); refine box_event ?hg (N := 2) ?hd (cs := #[.slice none 0 0, .slice none 0 0]) (t := 27) ?hr ?_; (case hd => rfl); (case hg => rfl); (case hr => ((go_simp; done))); intro gb305 hg w5 hbox hb; have n0_ := Aside0.mk (below_step (zz0) hb); have n1_ := Aside0.mk (hbox); have n2_ := Aside0.mk ((zz18 : w.heap.size ≤ gb305)); have n3_ := Aside0.mk ((zz18 : w.heap.size ≤ gb305)); clear HB; have HB := n0_; have BK305 := n1_; have GW305 := n2_; have GE305 := n3_; clear n0_ n1_ n2_ n3_; clear hb hbox hg) | ((with_reducible refine gate_dst (N := 4) rfl ?_); refine box_event ?hg (N := 4) ?hd (cs := #[.slice none 0 0, .slice none 0 0]) (t := 27) ?hr ?_; (case hd => rfl); (case hg => rfl); (case hr => ((go_simp; done))); intro gb306 hg w6 hbox hb; have n0_ := Aside0.mk (blk_below (g := gb305) (o := .cells #[.slice none 0 0, .slice none 0 0] 27 (0, 0)) (zz8) hb); have n1_ := Aside0.mk (below_step (zz0) hb); have n2_ := Aside0.mk (hbox); have n3_ := Aside0.mk ((zz18 : w.heap.size ≤ gb306)); have n4_ := Aside0.mk ((zz18 : w.heap.size ≤ gb306)); have n5_ := Aside0.mk ((zz56 : gb305 ≠ gb306)); have n6_ := Aside0.mk ((zz57 : gb306 ≠ gb305)); clear BK305; clear HB; have BK305 := n0_; have HB := n1_; have BK306 := n2_; have GW306 := n3_; have GE306 := n4_; have NB305_306 := n5_; have NB306_305 := n6_; clear n0_ n1_ n2_ n3_ n4_ n5_ n6_; clear hb hbox hg))
  go_loopg [5, 6] k (fun kq v5 v6 w' => ∃ (x5_1 : List Int) (x6_1 : Int) (x307000_1 : List ByteArray) (u307000 : Value), v6 = .int .i64 x6_1 ∧ Aside0 (R3_limited.l0 kq l0 x5_1 x6_1 x307000_1 = some (r1, r2, r3)) ∧ Aside0 (kq ≤ k) ∧ Aside0 (Kd.R (Kd.int .i64) 3 w' w.heap.size (fun _ => True) v5 x5_1) ∧ Aside0 (Kd.R Kd.string 9 w' w.heap.size (fun _ => True) u307000 x307000_1) ∧ Aside0 (w'.heap[gb305]? = some (.cells #[(.slice none 0 0), (.slice none 0 0)] 27 (0, 0))) ∧ Aside0 (w'.heap[gb306]? = some (.cells #[u307000, (.slice none 0 0)] 27 (0, 0))) ∧ Aside0 (Below w.heap.size w w'))
  case atStart => exact ⟨(([] : List Int)), (0), (([] : List ByteArray)), (.slice none 0 0), (by rfl), H', ⟨Nat.le_refl _⟩, ⟨zz33⟩, ⟨zz33⟩, ⟨zz8⟩, ⟨zz9⟩, ⟨zz0⟩⟩
  case round =>
   clear H'
   clear c2b0
   clear c2b1
   obtain ⟨x5_1, x6_1, x307000_1, u307000, rfl, HA, HK1, HO_5, HO_307000, BK305, BK306, HB⟩ := hrel
   cases gk with
   | zero => exact absurd HA.out (by simp [R3_limited.l0])
   | succ k1 =>
    have H := HA.out
    clear HA
    simp only [R3_limited.l0] at H
    by_cases c7 : x6_1 < (l0.length : Int)
    ·rw [if_pos c7] at H
     have c7b0 : decide (x6_1 < (l0.length : Int)) = true := decide_eq_true c7
     clear c7
     by_cases c8 : 0 ≤ x6_1
     ·rw [if_pos c8] at H
      have c8b0 : decide (0 ≤ x6_1) = true := decide_eq_true c8
      clear c8
      have HC9 := Aside0.mk H
      clear H
      have p307 : 0 ≤ (x6_1 : Int) := of_decide_eq_true (zz5)
      have q307 : x6_1 < (l0.length : Int) := of_decide_eq_true (zz5)
      obtain ⟨ad307, e307, hx307_0, hx307_1, hx307_2, hx307_3, hx307_4⟩ := at_T104 HR0.out x6_1 p307 q307
      cases e307
      replace hx307_0 := (HB.out.cell (World.block_lt_of_cell? w _ hx307_0)).trans hx307_0
      replace hx307_1 := (HB.out.cell (World.block_lt_of_cell? w _ hx307_1)).trans hx307_1
      replace hx307_2 := (HB.out.cell (World.block_lt_of_cell? w _ hx307_2)).trans hx307_2
      replace hx307_3 := (HB.out.cell (World.block_lt_of_cell? w _ hx307_3)).trans hx307_3
      replace hx307_4 := (HB.out.cell (World.block_lt_of_cell? w _ hx307_4)).trans hx307_4
      replace p307 := eq_true p307
      replace q307 := eq_true q307
      go_upto_if 28 with ((((with_reducible refine gate_dst (N := 7) rfl ?_); refine box_event ?hg (N := 7) ?hd (cs := #[.int .i64 0, .int .i64 0, .int .i64 0, .string (⟨#[]⟩ : ByteArray), .string (⟨#[]⟩ : ByteArray)]) (t := 104) ?hr ?_; (case hd => rfl); (case hg => rfl); (case hr => ((go_simp; done))); intro gb308 hg w10 hbox hb; have n0_ := Aside0.mk (Kd.R_below (zz10) hb); have n1_ := Aside0.mk (Kd.R_below (zz25) hb); have n2_ := Aside0.mk (blk_below (g := gb305) (o := .cells #[.slice none 0 0, .slice none 0 0] 27 (0, 0)) (zz8) hb); have n3_ := Aside0.mk (blk_below (g := gb306) (o := .cells #[u307000, .slice none 0 0] 27 (0, 0)) (zz9) hb); have n4_ := Aside0.mk (below_step (zz0) hb); have n5_ := Aside0.mk (hbox); have n6_ := Aside0.mk ((zz18 : w.heap.size ≤ gb308)); have n7_ := Aside0.mk ((zz18 : w.heap.size ≤ gb308)); have n8_ := Aside0.mk ((zz56 : gb305 ≠ gb308)); have n9_ := Aside0.mk ((zz57 : gb308 ≠ gb305)); have n10_ := Aside0.mk ((by rw [hg]; exact Nat.ne_of_lt (blk_lt (g := gb306) (o := .cells #[u307000, .slice none 0 0] 27 (0, 0)) (zz9)) : gb306 ≠ gb308)); have n11_ := Aside0.mk ((by rw [hg]; exact Nat.ne_of_gt (blk_lt (g := gb306) (o := .cells #[u307000, .slice none 0 0] 27 (0, 0)) (zz9)) : gb308 ≠ gb306)); clear HO_5; clear HO_307000; clear BK305; clear BK306; clear HB; have HO_5 := n0_; have HO_307000 := n1_; have BK305 := n2_; have BK306 := n3_; have HB := n4_; have BK308 := n5_; have GW308 := n6_; have GE308 := n7_; have NB305_308 := n8_; have NB308_305 := n9_; have NB306_308 := n10_; have NB308_306 := n11_; clear n0_ n1_ n2_ n3_ n4_ n5_ n6_ n7_ n8_ n9_ n10_ n11_; clear hb hbox hg; have hnb11 := NB308_305.out; have hnc11 := NB305_308.out; have hnb12 := NB308_306.out; have hnc12 := NB306_308.out; have hcz13_0 : w10.cell? ⟨gb308, 0, none⟩ = some (.int .i64 0) := (blk_cell BK308.out 0).trans rfl; have hcz13_1 : w10.cell? ⟨gb308, 1, none⟩ = some (.int .i64 0) := (blk_cell BK308.out 1).trans rfl; have hcz13_2 : w10.cell? ⟨gb308, 2, none⟩ = some (.int .i64 0) := (blk_cell BK308.out 2).trans rfl; have hcz13_3 : w10.cell? ⟨gb308, 3, none⟩ = some (.string (⟨#[]⟩ : ByteArray)) := (blk_cell BK308.out 3).trans rfl; have hcz13_4 : w10.cell? ⟨gb308, 4, none⟩ = some (.string (⟨#[]⟩ : ByteArray)) := (blk_cell BK308.out 4).trans rfl; have hfz13_0 := blk_frozen BK308.out 0; have hfz13_1 := blk_frozen BK308.out 1; have hfz13_2 := blk_frozen BK308.out 2; have hfz13_3 := blk_frozen BK308.out 3; have hfz13_4 := blk_frozen BK308.out 4)))
      go_cut [8] (fun v8 wc => ∃ (kq : Nat) (x8_8 : Int), v8 = .int .i64 x8_8 ∧ Aside0 (R3_limited.j1 kq l0 x5_1 x6_1 x8_8 x307000_1 ((rd_T104 l0 x6_1).f0.f0) ((rd_T104 l0 x6_1).f0.f1) ((rd_T104 l0 x6_1).f0.f2) ((rd_T104 l0 x6_1).f0.f3) ((rd_T104 l0 x6_1).f1) = some (r1, r2, r3)) ∧ Aside0 (kq ≤ k1) ∧ Aside0 (Kd.R (Kd.int .i64) 3 wc w.heap.size (fun _ => True) u5 x5_1) ∧ Aside0 (Kd.R Kd.string 9 wc w.heap.size (fun _ => True) u307000 x307000_1) ∧ Aside0 (wc.heap[gb305]? = some (.cells #[(.slice none 0 0), (.slice none 0 0)] 27 (0, 0))) ∧ Aside0 (wc.heap[gb306]? = some (.cells #[u307000, (.slice none 0 0)] 27 (0, 0))) ∧ Aside0 (wc.heap[gb308]? = some (.cells #[.int .i64 ((rd_T104 l0 x6_1).f0.f0), .int .i64 ((rd_T104 l0 x6_1).f0.f1), .int .i64 ((rd_T104 l0 x6_1).f0.f2), .string ((rd_T104 l0 x6_1).f0.f3), .string ((rd_T104 l0 x6_1).f1)] 104 (0, 0))) ∧ Aside0 (Below w.heap.size w wc))
      case first =>
       have H := HC9.out
       clear HC9
       by_cases c14 : ((rd_T104 l0 x6_1).f0.f2) ≥ 0
       ·rw [if_pos c14] at H
        have c14b0 : decide (0 ≤ ((rd_T104 l0 x6_1).f0.f2)) = true := decide_eq_true c14
        clear c14
        (rw [c14b0])
        by_cases c15 : 0 ≤ ((rd_T104 l0 x6_1).f0.f2)
        ·rw [if_pos c15] at H
         have c15b0 : decide (0 ≤ ((rd_T104 l0 x6_1).f0.f2)) = true := decide_eq_true c15
         clear c15
         by_cases c16 : ((rd_T104 l0 x6_1).f0.f2) < (x5_1.length : Int)
         ·rw [if_pos c16] at H
          have c16b0 : decide (((rd_T104 l0 x6_1).f0.f2) < (x5_1.length : Int)) = true := decide_eq_true c16
          clear c16
          have H' := Aside0.mk H
          clear H
          have hnb17 := NB308_305.out
          have hnc17 := NB305_308.out
          have hnb18 := NB308_306.out
          have hnc18 := NB306_308.out
          have hcz19_0 : w10.cell? ⟨gb308, 0, none⟩ = some (.int .i64 0) := (blk_cell BK308.out 0).trans rfl
          have hcz19_1 : w10.cell? ⟨gb308, 1, none⟩ = some (.int .i64 0) := (blk_cell BK308.out 1).trans rfl
          have hcz19_2 : w10.cell? ⟨gb308, 2, none⟩ = some (.int .i64 0) := (blk_cell BK308.out 2).trans rfl
          have hcz19_3 : w10.cell? ⟨gb308, 3, none⟩ = some (.string (⟨#[]⟩ : ByteArray)) := (blk_cell BK308.out 3).trans rfl
          have hcz19_4 : w10.cell? ⟨gb308, 4, none⟩ = some (.string (⟨#[]⟩ : ByteArray)) := (blk_cell BK308.out 4).trans rfl
          have hfz19_0 := blk_frozen BK308.out 0
          have hfz19_1 := blk_frozen BK308.out 1
          have hfz19_2 := blk_frozen BK308.out 2
          have hfz19_3 := blk_frozen BK308.out 3
          have hfz19_4 := blk_frozen BK308.out 4
          obtain ⟨Ao20, co20, eo20⟩ := Kd.R_slice HO_5.out
          subst eo20
          have p309 : 0 ≤ (((rd_T104 l0 x6_1).f0.f2) : Int) := of_decide_eq_true (zz5)
          have q309 : ((rd_T104 l0 x6_1).f0.f2) < (x5_1.length : Int) := of_decide_eq_true (zz5)
          obtain ⟨ad309, e309, hx309_0⟩ := Kd.at_int (Kd.R_reads' HO_5.out).2.2 ((rd_T104 l0 x6_1).f0.f2) p309 q309
          cases e309
          have hn309_0 : ad309.block ≠ gb308 := Kd.own_blk (Kd.R_ne HO_5.out BK308.out (by decide))
          have hn309_1 : ad309.block ≠ gb308 := Kd.own_blk (Kd.R_ne HO_5.out BK308.out (by decide))
          have hn309_2 : ad309.block ≠ gb308 := Kd.own_blk (Kd.R_ne HO_5.out BK308.out (by decide))
          have hn309_3 : ad309.block ≠ gb308 := Kd.own_blk (Kd.R_ne HO_5.out BK308.out (by decide))
          have hn309_4 : ad309.block ≠ gb308 := Kd.own_blk (Kd.R_ne HO_5.out BK308.out (by decide))
          replace hx309_0 := (cell_far (p := ⟨gb308, 0, none⟩) (by ((rw [add_block]; exact hn309_0))) (.int .i64 ((rd_T104 l0 x6_1).f0.f0))).trans hx309_0
          replace hx309_0 := (cell_far (p := ⟨gb308, 1, none⟩) (by ((rw [add_block]; exact hn309_1))) (.int .i64 ((rd_T104 l0 x6_1).f0.f1))).trans hx309_0
          replace hx309_0 := (cell_far (p := ⟨gb308, 2, none⟩) (by ((rw [add_block]; exact hn309_2))) (.int .i64 ((rd_T104 l0 x6_1).f0.f2))).trans hx309_0
          replace hx309_0 := (cell_far (p := ⟨gb308, 3, none⟩) (by ((rw [add_block]; exact hn309_3))) (.string ((rd_T104 l0 x6_1).f0.f3))).trans hx309_0
          replace hx309_0 := (cell_far (p := ⟨gb308, 4, none⟩) (by ((rw [add_block]; exact hn309_4))) (.string ((rd_T104 l0 x6_1).f1))).trans hx309_0
          clear hn309_0
          clear hn309_1
          clear hn309_2
          clear hn309_3
          clear hn309_4
          replace p309 := eq_true p309
          replace q309 := eq_true q309
          go_wp2
          go_meet
          case rel => exact ⟨_, (wrap64 ((rd x5_1 ((rd_T104 l0 x6_1).f0.f2)) + 1)), (by rfl), H', ⟨zz49⟩, ⟨by (with_reducible repeat (first | apply Kd.R_alloc | apply Kd.R_drewN | apply Kd.R_drew)); exact Kd.R_mono (Kd.R_far (p := ⟨gb308, 4, none⟩) (Kd.R_far (p := ⟨gb308, 3, none⟩) (Kd.R_far (p := ⟨gb308, 2, none⟩) (Kd.R_far (p := ⟨gb308, 1, none⟩) (Kd.R_far (p := ⟨gb308, 0, none⟩) (Kd.R_types HO_5.out BK308.out (by decide)) (fun _ hk => hk.2) (.int .i64 ((rd_T104 l0 x6_1).f0.f0))) (fun _ hk => hk.2) (.int .i64 ((rd_T104 l0 x6_1).f0.f1))) (fun _ hk => hk.2) (.int .i64 ((rd_T104 l0 x6_1).f0.f2))) (fun _ hk => hk.2) (.string ((rd_T104 l0 x6_1).f0.f3))) (fun _ hk => hk.2) (.string ((rd_T104 l0 x6_1).f1))) (fun _ hk => trivial)⟩, ⟨by (with_reducible repeat (first | apply Kd.R_alloc | apply Kd.R_drewN | apply Kd.R_drew)); exact Kd.R_mono (Kd.R_far (p := ⟨gb308, 4, none⟩) (Kd.R_far (p := ⟨gb308, 3, none⟩) (Kd.R_far (p := ⟨gb308, 2, none⟩) (Kd.R_far (p := ⟨gb308, 1, none⟩) (Kd.R_far (p := ⟨gb308, 0, none⟩) (Kd.R_types HO_307000.out BK308.out (by decide)) (fun _ hk => hk.2) (.int .i64 ((rd_T104 l0 x6_1).f0.f0))) (fun _ hk => hk.2) (.int .i64 ((rd_T104 l0 x6_1).f0.f1))) (fun _ hk => hk.2) (.int .i64 ((rd_T104 l0 x6_1).f0.f2))) (fun _ hk => hk.2) (.string ((rd_T104 l0 x6_1).f0.f3))) (fun _ hk => hk.2) (.string ((rd_T104 l0 x6_1).f1))) (fun _ hk => trivial)⟩, ⟨zz22⟩, ⟨zz23⟩, ⟨by (with_reducible repeat (first | refine blk_drewN ?_ _ | refine blk_drew ?_ | refine blk_alloc ?_ _)); refine blk_put (cs := #[.int .i64 ((rd_T104 l0 x6_1).f0.f0), .int .i64 ((rd_T104 l0 x6_1).f0.f1), .int .i64 ((rd_T104 l0 x6_1).f0.f2), .string ((rd_T104 l0 x6_1).f0.f3), .string (⟨#[]⟩ : ByteArray)]) ?_ 4 _ rfl; (with_reducible repeat (first | refine blk_drewN ?_ _ | refine blk_drew ?_ | refine blk_alloc ?_ _)); refine blk_put (cs := #[.int .i64 ((rd_T104 l0 x6_1).f0.f0), .int .i64 ((rd_T104 l0 x6_1).f0.f1), .int .i64 ((rd_T104 l0 x6_1).f0.f2), .string (⟨#[]⟩ : ByteArray), .string (⟨#[]⟩ : ByteArray)]) ?_ 3 _ rfl; (with_reducible repeat (first | refine blk_drewN ?_ _ | refine blk_drew ?_ | refine blk_alloc ?_ _)); refine blk_put (cs := #[.int .i64 ((rd_T104 l0 x6_1).f0.f0), .int .i64 ((rd_T104 l0 x6_1).f0.f1), .int .i64 0, .string (⟨#[]⟩ : ByteArray), .string (⟨#[]⟩ : ByteArray)]) ?_ 2 _ rfl; (with_reducible repeat (first | refine blk_drewN ?_ _ | refine blk_drew ?_ | refine blk_alloc ?_ _)); refine blk_put (cs := #[.int .i64 ((rd_T104 l0 x6_1).f0.f0), .int .i64 0, .int .i64 0, .string (⟨#[]⟩ : ByteArray), .string (⟨#[]⟩ : ByteArray)]) ?_ 1 _ rfl; (with_reducible repeat (first | refine blk_drewN ?_ _ | refine blk_drew ?_ | refine blk_alloc ?_ _)); refine blk_put (cs := #[.int .i64 0, .int .i64 0, .int .i64 0, .string (⟨#[]⟩ : ByteArray), .string (⟨#[]⟩ : ByteArray)]) ?_ 0 _ rfl; (with_reducible repeat (first | refine blk_drewN ?_ _ | refine blk_drew ?_ | refine blk_alloc ?_ _)); exact BK308.out⟩, ⟨by repeat (((with_reducible first | exact HB.out | refine below_set ?_ GE308.out)))⟩⟩
         ·rw [if_neg c16] at H
          exact absurd H (by simp)
        ·rw [if_neg c15] at H
         exact absurd H (by simp)
       ·rw [if_neg c14] at H
        have c14b0 : decide (0 ≤ ((rd_T104 l0 x6_1).f0.f2)) = false := decide_eq_false c14
        clear c14
        (rw [c14b0])
        have H' := Aside0.mk H
        clear H
        go_wp2
        go_meet
        case rel => exact ⟨_, (0), (by rfl), H', ⟨zz49⟩, ⟨by (with_reducible repeat (first | apply Kd.R_alloc | apply Kd.R_drewN | apply Kd.R_drew)); exact Kd.R_mono (Kd.R_far (p := ⟨gb308, 4, none⟩) (Kd.R_far (p := ⟨gb308, 3, none⟩) (Kd.R_far (p := ⟨gb308, 2, none⟩) (Kd.R_far (p := ⟨gb308, 1, none⟩) (Kd.R_far (p := ⟨gb308, 0, none⟩) (Kd.R_types HO_5.out BK308.out (by decide)) (fun _ hk => hk.2) (.int .i64 ((rd_T104 l0 x6_1).f0.f0))) (fun _ hk => hk.2) (.int .i64 ((rd_T104 l0 x6_1).f0.f1))) (fun _ hk => hk.2) (.int .i64 ((rd_T104 l0 x6_1).f0.f2))) (fun _ hk => hk.2) (.string ((rd_T104 l0 x6_1).f0.f3))) (fun _ hk => hk.2) (.string ((rd_T104 l0 x6_1).f1))) (fun _ hk => trivial)⟩, ⟨by (with_reducible repeat (first | apply Kd.R_alloc | apply Kd.R_drewN | apply Kd.R_drew)); exact Kd.R_mono (Kd.R_far (p := ⟨gb308, 4, none⟩) (Kd.R_far (p := ⟨gb308, 3, none⟩) (Kd.R_far (p := ⟨gb308, 2, none⟩) (Kd.R_far (p := ⟨gb308, 1, none⟩) (Kd.R_far (p := ⟨gb308, 0, none⟩) (Kd.R_types HO_307000.out BK308.out (by decide)) (fun _ hk => hk.2) (.int .i64 ((rd_T104 l0 x6_1).f0.f0))) (fun _ hk => hk.2) (.int .i64 ((rd_T104 l0 x6_1).f0.f1))) (fun _ hk => hk.2) (.int .i64 ((rd_T104 l0 x6_1).f0.f2))) (fun _ hk => hk.2) (.string ((rd_T104 l0 x6_1).f0.f3))) (fun _ hk => hk.2) (.string ((rd_T104 l0 x6_1).f1))) (fun _ hk => trivial)⟩, ⟨zz22⟩, ⟨zz23⟩, ⟨by (with_reducible repeat (first | refine blk_drewN ?_ _ | refine blk_drew ?_ | refine blk_alloc ?_ _)); refine blk_put (cs := #[.int .i64 ((rd_T104 l0 x6_1).f0.f0), .int .i64 ((rd_T104 l0 x6_1).f0.f1), .int .i64 ((rd_T104 l0 x6_1).f0.f2), .string ((rd_T104 l0 x6_1).f0.f3), .string (⟨#[]⟩ : ByteArray)]) ?_ 4 _ rfl; (with_reducible repeat (first | refine blk_drewN ?_ _ | refine blk_drew ?_ | refine blk_alloc ?_ _)); refine blk_put (cs := #[.int .i64 ((rd_T104 l0 x6_1).f0.f0), .int .i64 ((rd_T104 l0 x6_1).f0.f1), .int .i64 ((rd_T104 l0 x6_1).f0.f2), .string (⟨#[]⟩ : ByteArray), .string (⟨#[]⟩ : ByteArray)]) ?_ 3 _ rfl; (with_reducible repeat (first | refine blk_drewN ?_ _ | refine blk_drew ?_ | refine blk_alloc ?_ _)); refine blk_put (cs := #[.int .i64 ((rd_T104 l0 x6_1).f0.f0), .int .i64 ((rd_T104 l0 x6_1).f0.f1), .int .i64 0, .string (⟨#[]⟩ : ByteArray), .string (⟨#[]⟩ : ByteArray)]) ?_ 2 _ rfl; (with_reducible repeat (first | refine blk_drewN ?_ _ | refine blk_drew ?_ | refine blk_alloc ?_ _)); refine blk_put (cs := #[.int .i64 ((rd_T104 l0 x6_1).f0.f0), .int .i64 0, .int .i64 0, .string (⟨#[]⟩ : ByteArray), .string (⟨#[]⟩ : ByteArray)]) ?_ 1 _ rfl; (with_reducible repeat (first | refine blk_drewN ?_ _ | refine blk_drew ?_ | refine blk_alloc ?_ _)); refine blk_put (cs := #[.int .i64 0, .int .i64 0, .int .i64 0, .string (⟨#[]⟩ : ByteArray), .string (⟨#[]⟩ : ByteArray)]) ?_ 0 _ rfl; (with_reducible repeat (first | refine blk_drewN ?_ _ | refine blk_drew ?_ | refine blk_alloc ?_ _)); exact BK308.out⟩, ⟨by repeat (((with_reducible first | exact HB.out | refine below_set ?_ GE308.out)))⟩⟩
      case rest =>
       clear HC9
       clear c7b0
       clear c8b0
       clear hcz13_0
       clear hcz13_1
       clear hcz13_2
       clear hcz13_3
       clear hcz13_4
       clear hfz13_0
       clear hfz13_1
       clear hfz13_2
       clear hfz13_3
       clear hfz13_4
       clear hx307_0
       clear hx307_1
       clear hx307_2
       clear hx307_3
       clear hx307_4
       clear p307
       clear q307
       obtain ⟨kq, x8_8, rfl, HA, HJ8, HO_5, HO_307000, BK305, BK306, BK308, HB⟩ := hcut
       cases kq with
       | zero => exact absurd HA.out (by simp [R3_limited.j1])
       | succ kj8 =>
        have H := HA.out
        clear HA
        simp only [R3_limited.j1] at H
        by_cases c21 : x5_1.length < 17592186044416
        ·rw [if_pos c21] at H
         have LMc21 := Aside0.mk c21
         clear c21
         obtain ⟨y310, hy310⟩ : ∃ y_ : List Int, y_ = (x5_1 ++ [x8_8]) := ⟨_, rfl⟩
         replace H : (if ((rd_T104 l0 x6_1).f0.f0) = 1 then (R3_limited.j2 kj8 l0 y310 x6_1 (decide (x8_8 > 64)) x307000_1 ((rd_T104 l0 x6_1).f0.f0) ((rd_T104 l0 x6_1).f0.f1) ((rd_T104 l0 x6_1).f0.f2) ((rd_T104 l0 x6_1).f0.f3) ((rd_T104 l0 x6_1).f1)) else (R3_limited.j2 kj8 l0 y310 x6_1 false x307000_1 ((rd_T104 l0 x6_1).f0.f0) ((rd_T104 l0 x6_1).f0.f1) ((rd_T104 l0 x6_1).f0.f2) ((rd_T104 l0 x6_1).f0.f3) ((rd_T104 l0 x6_1).f1))) = some (r1, r2, r3) := by ((have H2_ := (Option.bind_some _ _).symm.trans H; rw [hy310]; with_reducible exact H2_))
         have Ny310 := Aside0.mk hy310
         clear hy310
         have HC22 := Aside0.mk H
         clear H
         go_upto_region 13 with ((((with_reducible refine gate_builtin (b := .append) (xs := #[.tmp 36, .tmp 38]) rfl ?_); at_builtin; refine Kd.R_append (Kd.int .i64) (w0 := w) w.heap.size rfl (.tmp 36) (.tmp 38) 47 3 (.int .i64 0) 8 rfl Tryz.underlying47 info3 rfl (by decide) (by omega) u5 x5_1 x8_8 [.int .i64 x8_8] (fun _ => True) (fun _ => False) rfl rfl ?aP (fun _ hk => hk.elim) ?aF ?aO ?aB ?aS ?aL ?_; (case aP => exact rfl); (case aB => exact (zz0)); (case aF => exact (fun _ _ => trivial)); (case aO => exact (zz10)); (case aS => exact (below_size (zz0))); (case aL => have := LMc21.out; omega); intro v311 w23 ho hb hg hat; rw [← Ny310.out] at ho; have n0_ := Aside0.mk (Kd.R_over' (zz25) (Kd.R_typed (zz10)) (by decide) hg); have n1_ := Aside0.mk (blk_grown (g := gb305) (o := .cells #[.slice none 0 0, .slice none 0 0] 27 (0, 0)) (zz8) hg (Kd.R_ne HO_5.out BK305.out (by decide))); have n2_ := Aside0.mk (blk_grown (g := gb306) (o := .cells #[u307000, .slice none 0 0] 27 (0, 0)) (zz9) hg (Kd.R_ne HO_5.out BK306.out (by decide))); have n3_ := Aside0.mk (blk_grown (g := gb308) (o := .cells #[.int .i64 ((rd_T104 l0 x6_1).f0.f0), .int .i64 ((rd_T104 l0 x6_1).f0.f1), .int .i64 ((rd_T104 l0 x6_1).f0.f2), .string ((rd_T104 l0 x6_1).f0.f3), .string ((rd_T104 l0 x6_1).f1)] 104 (0, 0)) (zz53) hg (Kd.R_ne HO_5.out BK308.out (by decide))); have n4_ := Aside0.mk (hb); have n5_ := Aside0.mk (ho); clear HO_307000; clear BK305; clear BK306; clear BK308; clear HB; clear HO_5; have HO_307000 := n0_; have BK305 := n1_; have BK306 := n2_; have BK308 := n3_; have HB := n4_; have HO312 := n5_; clear n0_ n1_ n2_ n3_ n4_ n5_; clear ho hb hg hat)))
         go_cut [47] (fun v47 wc => ∃ (kq : Nat) (x47_21 : Bool), v47 = .bool x47_21 ∧ Aside0 (R3_limited.j2 kq l0 y310 x6_1 x47_21 x307000_1 ((rd_T104 l0 x6_1).f0.f0) ((rd_T104 l0 x6_1).f0.f1) ((rd_T104 l0 x6_1).f0.f2) ((rd_T104 l0 x6_1).f0.f3) ((rd_T104 l0 x6_1).f1) = some (r1, r2, r3)) ∧ Aside0 (kq ≤ kj8) ∧ Aside0 (Kd.R (Kd.int .i64) 3 wc w.heap.size (fun _ => True) v311 y310) ∧ Aside0 (Kd.R Kd.string 9 wc w.heap.size (fun _ => True) u307000 x307000_1) ∧ Aside0 (wc.heap[gb305]? = some (.cells #[(.slice none 0 0), (.slice none 0 0)] 27 (0, 0))) ∧ Aside0 (wc.heap[gb306]? = some (.cells #[u307000, (.slice none 0 0)] 27 (0, 0))) ∧ Aside0 (wc.heap[gb308]? = some (.cells #[.int .i64 ((rd_T104 l0 x6_1).f0.f0), .int .i64 ((rd_T104 l0 x6_1).f0.f1), .int .i64 ((rd_T104 l0 x6_1).f0.f2), .string ((rd_T104 l0 x6_1).f0.f3), .string ((rd_T104 l0 x6_1).f1)] 104 (0, 0))) ∧ Aside0 (Below w.heap.size w wc))
         case first =>
          have H := HC22.out
          clear HC22
          by_cases c24 : ((rd_T104 l0 x6_1).f0.f0) = 1
          ·rw [if_pos c24] at H
           have c24b0 : (((rd_T104 l0 x6_1).f0.f0) == 1) = true := beq_iff_eq.mpr c24
           have c24b1 : (((rd_T104 l0 x6_1).f0.f0) != 1) = false := bne_eq_false_iff_eq.mpr c24
           clear c24
           have H' := Aside0.mk H
           clear H
           have hnb25 := NB308_305.out
           have hnc25 := NB305_308.out
           have hnb26 := NB308_306.out
           have hnc26 := NB306_308.out
           have hcz27_0 : w23.cell? ⟨gb308, 0, none⟩ = some (.int .i64 ((rd_T104 l0 x6_1).f0.f0)) := (blk_cell BK308.out 0).trans rfl
           have hcz27_1 : w23.cell? ⟨gb308, 1, none⟩ = some (.int .i64 ((rd_T104 l0 x6_1).f0.f1)) := (blk_cell BK308.out 1).trans rfl
           have hcz27_2 : w23.cell? ⟨gb308, 2, none⟩ = some (.int .i64 ((rd_T104 l0 x6_1).f0.f2)) := (blk_cell BK308.out 2).trans rfl
           have hcz27_3 : w23.cell? ⟨gb308, 3, none⟩ = some (.string ((rd_T104 l0 x6_1).f0.f3)) := (blk_cell BK308.out 3).trans rfl
           have hcz27_4 : w23.cell? ⟨gb308, 4, none⟩ = some (.string ((rd_T104 l0 x6_1).f1)) := (blk_cell BK308.out 4).trans rfl
           have hfz27_0 := blk_frozen BK308.out 0
           have hfz27_1 := blk_frozen BK308.out 1
           have hfz27_2 := blk_frozen BK308.out 2
           have hfz27_3 := blk_frozen BK308.out 3
           have hfz27_4 := blk_frozen BK308.out 4
           go_wp2
           go_meet
           case rel => exact ⟨_, (decide (x8_8 > 64)), (by rfl), H', ⟨by have := HK1.out; have := HJ8.out; omega⟩, ⟨by (with_reducible repeat (first | apply Kd.R_alloc | apply Kd.R_drewN | apply Kd.R_drew)); exact HO312.out⟩, ⟨zz25⟩, ⟨zz8⟩, ⟨zz9⟩, ⟨zz53⟩, ⟨zz0⟩⟩
          ·rw [if_neg c24] at H
           have c24b0 : (((rd_T104 l0 x6_1).f0.f0) == 1) = false := beq_eq_false_iff_ne.mpr c24
           have c24b1 : (((rd_T104 l0 x6_1).f0.f0) != 1) = true := bne_iff_ne.mpr c24
           have H' := Aside0.mk H
           clear H
           have hnb28 := NB308_305.out
           have hnc28 := NB305_308.out
           have hnb29 := NB308_306.out
           have hnc29 := NB306_308.out
           have hcz30_0 : w23.cell? ⟨gb308, 0, none⟩ = some (.int .i64 ((rd_T104 l0 x6_1).f0.f0)) := (blk_cell BK308.out 0).trans rfl
           have hcz30_1 : w23.cell? ⟨gb308, 1, none⟩ = some (.int .i64 ((rd_T104 l0 x6_1).f0.f1)) := (blk_cell BK308.out 1).trans rfl
           have hcz30_2 : w23.cell? ⟨gb308, 2, none⟩ = some (.int .i64 ((rd_T104 l0 x6_1).f0.f2)) := (blk_cell BK308.out 2).trans rfl
           have hcz30_3 : w23.cell? ⟨gb308, 3, none⟩ = some (.string ((rd_T104 l0 x6_1).f0.f3)) := (blk_cell BK308.out 3).trans rfl
           have hcz30_4 : w23.cell? ⟨gb308, 4, none⟩ = some (.string ((rd_T104 l0 x6_1).f1)) := (blk_cell BK308.out 4).trans rfl
           have hfz30_0 := blk_frozen BK308.out 0
           have hfz30_1 := blk_frozen BK308.out 1
           have hfz30_2 := blk_frozen BK308.out 2
           have hfz30_3 := blk_frozen BK308.out 3
           have hfz30_4 := blk_frozen BK308.out 4
           go_wp2
           go_meet
           case rel => exact ⟨_, (false), (by rfl), H', ⟨by have := HK1.out; have := HJ8.out; omega⟩, ⟨by (with_reducible repeat (first | apply Kd.R_alloc | apply Kd.R_drewN | apply Kd.R_drew)); exact HO312.out⟩, ⟨zz25⟩, ⟨zz8⟩, ⟨zz9⟩, ⟨zz53⟩, ⟨zz0⟩⟩
         case rest =>
          clear HC22
          obtain ⟨kq, x47_21, rfl, HA, HJ21, HO_5, HO_307000, BK305, BK306, BK308, HB⟩ := hcut
          cases kq with
          | zero => exact absurd HA.out (by simp [R3_limited.j2])
          | succ kj21 =>
           have H := HA.out
           clear HA
           simp only [R3_limited.j2] at H
           by_cases c31 : x47_21 = true
           ·subst c31
            rw [if_pos rfl] at H
            simp only [Option.some.injEq, Prod.mk.injEq] at H
            obtain ⟨rfl, rfl, rfl⟩ := H
            have hnb32 := NB305_306.out
            have hnc32 := NB306_305.out
            have hnb33 := NB305_308.out
            have hnc33 := NB308_305.out
            have hcz34_0 : wc.cell? ⟨gb305, 0, none⟩ = some (.slice none 0 0) := (blk_cell BK305.out 0).trans rfl
            have hcz34_1 : wc.cell? ⟨gb305, 1, none⟩ = some (.slice none 0 0) := (blk_cell BK305.out 1).trans rfl
            have hfz34_0 := blk_frozen BK305.out 0
            have hfz34_1 := blk_frozen BK305.out 1
            go_wp2
            refine bodyPost_ret (results_ct rfl _ _ gb305 27 #[.slice none 0 0, .slice none 0 0] (0, 0) _ rfl (zz20) Tryz.underlying27 rfl (by kernel_rfl)) rfl ?_
            exact ⟨_, _, by rfl, zz33, zz33, by repeat (((with_reducible first | exact HB.out | refine below_set ?_ GE305.out)))⟩
           ·replace c31 := Bool.eq_false_iff.mpr c31
            subst c31
            rw [if_neg (show ¬ (false = true) by decide)] at H
            by_cases c35 : ((rd_T104 l0 x6_1).f0.f0) = 3
            ·rw [if_pos c35] at H
             have c35b0 : (((rd_T104 l0 x6_1).f0.f0) == 3) = true := beq_iff_eq.mpr c35
             have c35b1 : (((rd_T104 l0 x6_1).f0.f0) != 3) = false := bne_eq_false_iff_eq.mpr c35
             clear c35
             have H' := Aside0.mk H
             clear H
             have hnb36 := NB308_305.out
             have hnc36 := NB305_308.out
             have hnb37 := NB308_306.out
             have hnc37 := NB306_308.out
             have hcz38_0 : wc.cell? ⟨gb308, 0, none⟩ = some (.int .i64 ((rd_T104 l0 x6_1).f0.f0)) := (blk_cell BK308.out 0).trans rfl
             have hcz38_1 : wc.cell? ⟨gb308, 1, none⟩ = some (.int .i64 ((rd_T104 l0 x6_1).f0.f1)) := (blk_cell BK308.out 1).trans rfl
             have hcz38_2 : wc.cell? ⟨gb308, 2, none⟩ = some (.int .i64 ((rd_T104 l0 x6_1).f0.f2)) := (blk_cell BK308.out 2).trans rfl
             have hcz38_3 : wc.cell? ⟨gb308, 3, none⟩ = some (.string ((rd_T104 l0 x6_1).f0.f3)) := (blk_cell BK308.out 3).trans rfl
             have hcz38_4 : wc.cell? ⟨gb308, 4, none⟩ = some (.string ((rd_T104 l0 x6_1).f1)) := (blk_cell BK308.out 4).trans rfl
             have hfz38_0 := blk_frozen BK308.out 0
             have hfz38_1 := blk_frozen BK308.out 1
             have hfz38_2 := blk_frozen BK308.out 2
             have hfz38_3 := blk_frozen BK308.out 3
             have hfz38_4 := blk_frozen BK308.out 4
             go_wp2
             go_roundg kj21
             case measure => have := HK1.out; have := HJ8.out; have := HJ21.out; omega
             case rel => exact ⟨(y310), (wrap64 (x6_1 + 1)), (x307000_1), (u307000), (by rfl), H', ⟨by have := HK1.out; have := HJ8.out; have := HJ21.out; omega⟩, ⟨zz10⟩, ⟨zz25⟩, ⟨zz8⟩, ⟨zz9⟩, ⟨zz0⟩⟩
            ·rw [if_neg c35] at H
             have c35b0 : (((rd_T104 l0 x6_1).f0.f0) == 3) = false := beq_eq_false_iff_ne.mpr c35
             have c35b1 : (((rd_T104 l0 x6_1).f0.f0) != 3) = true := bne_iff_ne.mpr c35
             replace H := Option.bind_eq_some_iff.mp H
             obtain ⟨t313, A390, H⟩ := H
             have A39 := Aside0.mk A390
             clear A390
             have H' := Aside0.mk H
             clear H
             have hnb40 := NB308_305.out
             have hnc40 := NB305_308.out
             have hnb41 := NB308_306.out
             have hnc41 := NB306_308.out
             have hcz42_0 : wc.cell? ⟨gb308, 0, none⟩ = some (.int .i64 ((rd_T104 l0 x6_1).f0.f0)) := (blk_cell BK308.out 0).trans rfl
             have hcz42_1 : wc.cell? ⟨gb308, 1, none⟩ = some (.int .i64 ((rd_T104 l0 x6_1).f0.f1)) := (blk_cell BK308.out 1).trans rfl
             have hcz42_2 : wc.cell? ⟨gb308, 2, none⟩ = some (.int .i64 ((rd_T104 l0 x6_1).f0.f2)) := (blk_cell BK308.out 2).trans rfl
             have hcz42_3 : wc.cell? ⟨gb308, 3, none⟩ = some (.string ((rd_T104 l0 x6_1).f0.f3)) := (blk_cell BK308.out 3).trans rfl
             have hcz42_4 : wc.cell? ⟨gb308, 4, none⟩ = some (.string ((rd_T104 l0 x6_1).f1)) := (blk_cell BK308.out 4).trans rfl
             have hfz42_0 := blk_frozen BK308.out 0
             have hfz42_1 := blk_frozen BK308.out 1
             have hfz42_2 := blk_frozen BK308.out 2
             have hfz42_3 := blk_frozen BK308.out 3
             have hfz42_4 := blk_frozen BK308.out 4
             have hnb43 := NB306_305.out
             have hnc43 := NB305_306.out
             have hcz44_0 : wc.cell? ⟨gb306, 0, none⟩ = some (u307000) := (blk_cell BK306.out 0).trans rfl
             have hcz44_1 : wc.cell? ⟨gb306, 1, none⟩ = some (.slice none 0 0) := (blk_cell BK306.out 1).trans rfl
             have hfz44_0 := blk_frozen BK306.out 0
             have hfz44_1 := blk_frozen BK306.out 1
             obtain ⟨Ao45, co45, eo45⟩ := Kd.R_slice HO_307000.out
             subst eo45
             go_wp2_with ((((with_reducible refine gate_callee (f := 68) rfl ?_); refine goesL_ (some 57) rfl rfl Tryz.func68 (by kernel_rfl) rfl #[.slice Ao45 x307000_1.length co45, .string ((rd_T104 l0 x6_1).f1)] rfl (zz1) ?_; (with_reducible refine (R3_with.calls kj21 (fun k_ => some k_ = (.slice Ao45 x307000_1.length co45 : Value).ownBlock) (.slice Ao45 x307000_1.length co45) x307000_1 ((rd_T104 l0 x6_1).f1) t313 w _ ?side1 ?side2 A39.out).mono ?_); (case side1 => repeat ((with_reducible exact HB.out))); (case side2 => exact Kd.R_tight rfl HO_307000.out); rintro e w46 ⟨v314, rfl, ho0, hb, hkp⟩; refine ⟨_, rfl, ?_⟩; have n0_ := Aside0.mk (Kd.R_mono (ok' := fun k_ => True) (Kd.R_keptB ((Kd.R_apart' HO_5.out (Kd.R_typed HO_307000.out) (by decide))) hkp (fun k_ hk_ hs_ => (hk_.2) hs_)) (fun k_ hk_ => trivial)); have n1_ := Aside0.mk (blk_kept (zz8) hkp (fun hs_ => (fun e_ => (Kd.R_ne HO_307000.out BK305.out (by decide)) e_) hs_)); have n2_ := Aside0.mk (blk_kept (zz9) hkp (fun hs_ => (fun e_ => (Kd.R_ne HO_307000.out BK306.out (by decide)) e_) hs_)); have n3_ := Aside0.mk (blk_kept (zz53) hkp (fun hs_ => (fun e_ => (Kd.R_ne HO_307000.out BK308.out (by decide)) e_) hs_)); have n4_ := Aside0.mk (Kd.R_mono (ok' := fun k_ => True) ho0 (fun k_ hk_ => trivial)); have n5_ := Aside0.mk (hb); clear HO_5; clear BK305; clear BK306; clear BK308; clear HB; clear HO_307000; have HO_5 := n0_; have BK305 := n1_; have BK306 := n2_; have BK308 := n3_; have HO315 := n4_; have HB := n5_; clear n0_ n1_ n2_ n3_ n4_ n5_; (clear hb); (clear hkp); (clear ho0); obtain ⟨Ao47, co47, eo47⟩ := Kd.R_slice HO315.out; subst eo47; have hcz48_0 : w46.cell? ⟨gb306, 0, none⟩ = some (.slice Ao45 x307000_1.length co45) := (blk_cell BK306.out 0).trans rfl; have hcz48_1 : w46.cell? ⟨gb306, 1, none⟩ = some (.slice none 0 0) := (blk_cell BK306.out 1).trans rfl; have hfz48_0 := blk_frozen BK306.out 0; have hfz48_1 := blk_frozen BK306.out 1)))
             go_roundg kj21
             case measure => have := HK1.out; have := HJ8.out; have := HJ21.out; omega
             case rel => exact ⟨(y310), (wrap64 (x6_1 + 1)), (t313), (.slice Ao47 t313.length co47), (by rfl), H', ⟨by have := HK1.out; have := HJ8.out; have := HJ21.out; omega⟩, ⟨by (with_reducible repeat (first | apply Kd.R_alloc | apply Kd.R_drewN | apply Kd.R_drew)); exact Kd.R_mono (Kd.R_far (p := ⟨gb306, 0, none⟩) (Kd.R_types HO_5.out BK306.out (by decide)) (fun _ hk => hk.2) (.slice Ao47 t313.length co47)) (fun _ hk => trivial)⟩, ⟨by (with_reducible repeat (first | apply Kd.R_alloc | apply Kd.R_drewN | apply Kd.R_drew)); exact Kd.R_mono (Kd.R_far (p := ⟨gb306, 0, none⟩) (Kd.R_types HO315.out BK306.out (by decide)) (fun _ hk => hk.2) (.slice Ao47 t313.length co47)) (fun _ hk => trivial)⟩, ⟨zz39⟩, ⟨by (with_reducible repeat (first | refine blk_drewN ?_ _ | refine blk_drew ?_ | refine blk_alloc ?_ _)); refine blk_put (cs := #[.slice Ao45 x307000_1.length co45, .slice none 0 0]) ?_ 0 _ rfl; (with_reducible repeat (first | refine blk_drewN ?_ _ | refine blk_drew ?_ | refine blk_alloc ?_ _)); exact BK306.out⟩, ⟨by repeat (((with_reducible first | exact HB.out | refine below_set ?_ GE306.out)))⟩⟩
        ·rw [if_neg c21] at H
         exact absurd H (by simp)
     ·rw [if_neg c8] at H
      exact absurd H (by simp)
    ·rw [if_neg c7] at H
     have c7b0 : decide (x6_1 < (l0.length : Int)) = false := decide_eq_false c7
     clear c7
     by_cases c49 : (x307000_1.length : Int) > 1000
     ·rw [if_pos c49] at H
      have c49b0 : decide (1000 < (x307000_1.length : Int)) = true := decide_eq_true c49
      have c49b1 : decide (1000 < x307000_1.length) = true := decide_eq_true (by omega)
      clear c49
      simp only [Option.some.injEq, Prod.mk.injEq] at H
      obtain ⟨rfl, rfl, rfl⟩ := H
      have hnb50 := NB306_305.out
      have hnc50 := NB305_306.out
      have hcz51_0 : wr.cell? ⟨gb306, 0, none⟩ = some (u307000) := (blk_cell BK306.out 0).trans rfl
      have hcz51_1 : wr.cell? ⟨gb306, 1, none⟩ = some (.slice none 0 0) := (blk_cell BK306.out 1).trans rfl
      have hfz51_0 := blk_frozen BK306.out 0
      have hfz51_1 := blk_frozen BK306.out 1
      obtain ⟨Ao52, co52, eo52⟩ := Kd.R_slice HO_307000.out
      subst eo52
      have hcz53_0 : wr.cell? ⟨gb305, 0, none⟩ = some (.slice none 0 0) := (blk_cell BK305.out 0).trans rfl
      have hcz53_1 : wr.cell? ⟨gb305, 1, none⟩ = some (.slice none 0 0) := (blk_cell BK305.out 1).trans rfl
      have hfz53_0 := blk_frozen BK305.out 0
      have hfz53_1 := blk_frozen BK305.out 1
      go_wp2
      refine bodyPost_ret (results_ct rfl _ _ gb305 27 #[.slice none 0 0, .slice none 0 0] (0, 0) _ rfl (zz20) Tryz.underlying27 rfl (by kernel_rfl)) rfl ?_
      exact ⟨_, _, by rfl, zz33, zz33, by repeat (((with_reducible first | exact HB.out | refine below_set ?_ GE305.out)))⟩
     ·rw [if_neg c49] at H
      have c49b0 : decide (1000 < (x307000_1.length : Int)) = false := decide_eq_false c49
      have c49b1 : decide (1000 < x307000_1.length) = false := decide_eq_false (by omega)
      clear c49
      have H' := Aside0.mk H
      clear H
      have hnb54 := NB306_305.out
      have hnc54 := NB305_306.out
      have hcz55_0 : wr.cell? ⟨gb306, 0, none⟩ = some (u307000) := (blk_cell BK306.out 0).trans rfl
      have hcz55_1 : wr.cell? ⟨gb306, 1, none⟩ = some (.slice none 0 0) := (blk_cell BK306.out 1).trans rfl
      have hfz55_0 := blk_frozen BK306.out 0
      have hfz55_1 := blk_frozen BK306.out 1
      obtain ⟨Ao56, co56, eo56⟩ := Kd.R_slice HO_307000.out
      subst eo56
      go_wp2
      go_loopg [9] k1 (fun kq v9 w' => ∃ (x9_2 : Int) (x307001_2 : List (S41)) (u307001 : Value), v9 = .int .i64 x9_2 ∧ Aside0 (R3_limited.l1 kq l0 x9_2 x307000_1 x307001_2 = some (r1, r2, r3)) ∧ Aside0 (kq ≤ k1) ∧ Aside0 (Kd.R Kd.string 9 w' w.heap.size (fun _ => True) (.slice Ao56 x307000_1.length co56) x307000_1) ∧ Aside0 (Kd.R k41 41 w' w.heap.size (fun _ => True) u307001 x307001_2) ∧ Aside0 (w'.heap[gb305]? = some (.cells #[(.slice none 0 0), (.slice none 0 0)] 27 (0, 0))) ∧ Aside0 (w'.heap[gb306]? = some (.cells #[(.slice Ao56 x307000_1.length co56), u307001] 27 (0, 0))) ∧ Aside0 (Below w.heap.size w w'))
      case atStart => exact ⟨(0), (([] : List (S41))), (.slice none 0 0), (by rfl), H', ⟨Nat.le_refl _⟩, ⟨zz25⟩, ⟨zz33⟩, ⟨zz8⟩, ⟨zz9⟩, ⟨zz0⟩⟩
      case round =>
       clear H'
       clear c7b0
       clear c49b0
       clear c49b1
       clear hcz55_0
       clear hcz55_1
       clear hfz55_0
       clear hfz55_1
       obtain ⟨x9_2, x307001_2, u307001, rfl, HA, HK2, HO_307000, HO_307001, BK305, BK306, HB⟩ := hrel
       cases gk with
       | zero => exact absurd HA.out (by simp [R3_limited.l1])
       | succ k2 =>
        have H := HA.out
        clear HA
        simp only [R3_limited.l1] at H
        by_cases c57 : x9_2 < (l0.length : Int)
        ·rw [if_pos c57] at H
         have c57b0 : decide (x9_2 < (l0.length : Int)) = true := decide_eq_true c57
         clear c57
         by_cases c58 : 0 ≤ x9_2
         ·rw [if_pos c58] at H
          have c58b0 : decide (0 ≤ x9_2) = true := decide_eq_true c58
          clear c58
          by_cases c59 : ((rd_T104 l0 x9_2).f0.f0) = 3
          ·rw [if_pos c59] at H
           have c59b0 : (((rd_T104 l0 x9_2).f0.f0) == 3) = true := beq_iff_eq.mpr c59
           have c59b1 : (((rd_T104 l0 x9_2).f0.f0) != 3) = false := bne_eq_false_iff_eq.mpr c59
           clear c59
           by_cases c60 : x307001_2.length < 3518437208883
           ·rw [if_pos c60] at H
            have LMc60 := Aside0.mk c60
            clear c60
            obtain ⟨y318, hy318⟩ : ∃ y_ : List (S41), y_ = (x307001_2 ++ [(⟨(rd_T104 l0 x9_2).f0.f0, (rd_T104 l0 x9_2).f0.f1, (rd_T104 l0 x9_2).f0.f2, (rd_T104 l0 x9_2).f0.f3⟩ : S41)]) := ⟨_, rfl⟩
            replace H : (R3_limited.l1 k2 l0 (wrap64 (x9_2 + 1)) x307000_1 y318) = some (r1, r2, r3) := by ((rw [hy318]; with_reducible exact H))
            have Ny318 := Aside0.mk hy318
            clear hy318
            have H' := Aside0.mk H
            clear H
            have p316 : 0 ≤ (x9_2 : Int) := of_decide_eq_true (zz5)
            have q316 : x9_2 < (l0.length : Int) := of_decide_eq_true (zz5)
            obtain ⟨ad316, e316, hx316_0, hx316_1, hx316_2, hx316_3, hx316_4⟩ := at_T104 HR0.out x9_2 p316 q316
            cases e316
            replace hx316_0 := (HB.out.cell (World.block_lt_of_cell? w _ hx316_0)).trans hx316_0
            replace hx316_1 := (HB.out.cell (World.block_lt_of_cell? w _ hx316_1)).trans hx316_1
            replace hx316_2 := (HB.out.cell (World.block_lt_of_cell? w _ hx316_2)).trans hx316_2
            replace hx316_3 := (HB.out.cell (World.block_lt_of_cell? w _ hx316_3)).trans hx316_3
            replace hx316_4 := (HB.out.cell (World.block_lt_of_cell? w _ hx316_4)).trans hx316_4
            replace p316 := eq_true p316
            replace q316 := eq_true q316
            go_wp2_with (first | ((with_reducible refine gate_dst (N := 10) rfl ?_); refine box_event ?hg (N := 10) ?hd (cs := #[.int .i64 0, .int .i64 0, .int .i64 0, .string (⟨#[]⟩ : ByteArray)]) (t := 41) ?hr ?_; (case hd => rfl); (case hg => rfl); (case hr => ((go_simp; done))); intro gb317 hg w61 hbox hb; have n0_ := Aside0.mk (Kd.R_below (zz25) hb); have n1_ := Aside0.mk (Kd.R_below (Kd.R_elderB (by (with_reducible repeat (first | apply Kd.R_alloc | apply Kd.R_drewN | apply Kd.R_drew)); exact HO_307001.out) gb317 (Nat.le_of_eq hg.symm)) hb); have n2_ := Aside0.mk (blk_below (g := gb305) (o := .cells #[.slice none 0 0, .slice none 0 0] 27 (0, 0)) (zz8) hb); have n3_ := Aside0.mk (blk_below (g := gb306) (o := .cells #[.slice Ao56 x307000_1.length co56, u307001] 27 (0, 0)) (zz9) hb); have n4_ := Aside0.mk (below_step (zz0) hb); have n5_ := Aside0.mk (hbox); have n6_ := Aside0.mk ((zz18 : w.heap.size ≤ gb317)); have n7_ := Aside0.mk ((zz18 : w.heap.size ≤ gb317)); have n8_ := Aside0.mk ((zz56 : gb305 ≠ gb317)); have n9_ := Aside0.mk ((zz57 : gb317 ≠ gb305)); have n10_ := Aside0.mk ((by rw [hg]; exact Nat.ne_of_lt (blk_lt (g := gb306) (o := .cells #[.slice Ao56 x307000_1.length co56, u307001] 27 (0, 0)) (zz9)) : gb306 ≠ gb317)); have n11_ := Aside0.mk ((by rw [hg]; exact Nat.ne_of_gt (blk_lt (g := gb306) (o := .cells #[.slice Ao56 x307000_1.length co56, u307001] 27 (0, 0)) (zz9)) : gb317 ≠ gb306)); clear HO_307000; clear HO_307001; clear BK305; clear BK306; clear HB; have HO_307000 := n0_; have HO_307001 := n1_; have BK305 := n2_; have BK306 := n3_; have HB := n4_; have BK317 := n5_; have GW317 := n6_; have GE317 := n7_; have NB305_317 := n8_; have NB317_305 := n9_; have NB306_317 := n10_; have NB317_306 := n11_; clear n0_ n1_ n2_ n3_ n4_ n5_ n6_ n7_ n8_ n9_ n10_ n11_; clear hb hbox hg; have hnb62 := NB317_305.out; have hnc62 := NB305_317.out; have hnb63 := NB317_306.out; have hnc63 := NB306_317.out; have hcz64_0 : w61.cell? ⟨gb317, 0, none⟩ = some (.int .i64 0) := (blk_cell BK317.out 0).trans rfl; have hcz64_1 : w61.cell? ⟨gb317, 1, none⟩ = some (.int .i64 0) := (blk_cell BK317.out 1).trans rfl; have hcz64_2 : w61.cell? ⟨gb317, 2, none⟩ = some (.int .i64 0) := (blk_cell BK317.out 2).trans rfl; have hcz64_3 : w61.cell? ⟨gb317, 3, none⟩ = some (.string (⟨#[]⟩ : ByteArray)) := (blk_cell BK317.out 3).trans rfl; have hfz64_0 := blk_frozen BK317.out 0; have hfz64_1 := blk_frozen BK317.out 1; have hfz64_2 := blk_frozen BK317.out 2; have hfz64_3 := blk_frozen BK317.out 3; have hnb65 := NB306_305.out; have hnc65 := NB305_306.out; have hcz66_0 : w61.cell? ⟨gb306, 0, none⟩ = some (.slice Ao56 x307000_1.length co56) := (blk_cell BK306.out 0).trans rfl; have hcz66_1 : w61.cell? ⟨gb306, 1, none⟩ = some (u307001) := (blk_cell BK306.out 1).trans rfl; have hfz66_0 := blk_frozen BK306.out 0; have hfz66_1 := blk_frozen BK306.out 1) | ((with_reducible refine gate_builtin (b := .append) (xs := #[.tmp 88, .tmp 90]) rfl ?_); at_builtin; refine Kd.R_append k41 (w0 := w) w.heap.size rfl (.tmp 88) (.tmp 90) 25 41 (.agg #[(.int .i64 0), (.int .i64 0), (.int .i64 0), (.string ⟨#[]⟩)]) 40 rfl Tryz.underlying25 info41 rfl (by decide) (by omega) u307001 x307001_2 (⟨(rd_T104 l0 x9_2).f0.f0, (rd_T104 l0 x9_2).f0.f1, (rd_T104 l0 x9_2).f0.f2, (rd_T104 l0 x9_2).f0.f3⟩ : S41) [.int .i64 ((rd_T104 l0 x9_2).f0.f0), .int .i64 ((rd_T104 l0 x9_2).f0.f1), .int .i64 ((rd_T104 l0 x9_2).f0.f2), .string ((rd_T104 l0 x9_2).f0.f3)] (fun k_ => k_ ≠ gb317) (fun _ => False) rfl (by ((go_simp; done))) ?aP (fun _ hk => hk.elim) ?aF ?aO ?aB ?aS ?aL ?_; (case aP => exact k41_mkM _ _ _ (⟨(rd_T104 l0 x9_2).f0.f0, (rd_T104 l0 x9_2).f0.f1, (rd_T104 l0 x9_2).f0.f2, (rd_T104 l0 x9_2).f0.f3⟩ : S41)); (case aB => exact (by repeat (((with_reducible first | exact HB.out | refine below_set ?_ GE317.out))))); (case aF => exact (fun k_ hk => Kd.freshB (g := gb317) (o := .cells #[.int .i64 ((rd_T104 l0 x9_2).f0.f0), .int .i64 ((rd_T104 l0 x9_2).f0.f1), .int .i64 ((rd_T104 l0 x9_2).f0.f2), .string ((rd_T104 l0 x9_2).f0.f3)] 41 (0, 0)) (by (with_reducible repeat (first | refine blk_drewN ?_ _ | refine blk_drew ?_ | refine blk_alloc ?_ _)); refine blk_put (cs := #[.int .i64 ((rd_T104 l0 x9_2).f0.f0), .int .i64 ((rd_T104 l0 x9_2).f0.f1), .int .i64 ((rd_T104 l0 x9_2).f0.f2), .string (⟨#[]⟩ : ByteArray)]) ?_ 3 _ rfl; (with_reducible repeat (first | refine blk_drewN ?_ _ | refine blk_drew ?_ | refine blk_alloc ?_ _)); refine blk_put (cs := #[.int .i64 ((rd_T104 l0 x9_2).f0.f0), .int .i64 ((rd_T104 l0 x9_2).f0.f1), .int .i64 0, .string (⟨#[]⟩ : ByteArray)]) ?_ 2 _ rfl; (with_reducible repeat (first | refine blk_drewN ?_ _ | refine blk_drew ?_ | refine blk_alloc ?_ _)); refine blk_put (cs := #[.int .i64 ((rd_T104 l0 x9_2).f0.f0), .int .i64 0, .int .i64 0, .string (⟨#[]⟩ : ByteArray)]) ?_ 1 _ rfl; (with_reducible repeat (first | refine blk_drewN ?_ _ | refine blk_drew ?_ | refine blk_alloc ?_ _)); refine blk_put (cs := #[.int .i64 0, .int .i64 0, .int .i64 0, .string (⟨#[]⟩ : ByteArray)]) ?_ 0 _ rfl; (with_reducible repeat (first | refine blk_drewN ?_ _ | refine blk_drew ?_ | refine blk_alloc ?_ _)); exact BK317.out) k_ hk)); (case aO => exact (by (with_reducible repeat (first | apply Kd.R_alloc | apply Kd.R_drewN | apply Kd.R_drew)); exact Kd.R_mono (Kd.R_far (p := ⟨gb317, 3, none⟩) (Kd.R_far (p := ⟨gb317, 2, none⟩) (Kd.R_far (p := ⟨gb317, 1, none⟩) (Kd.R_far (p := ⟨gb317, 0, none⟩) (Kd.R_mono HO_307001.out (fun k_ hk => (⟨hk, hk.2⟩ : _ ∧ k_ ≠ gb317))) (fun _ hk => hk.2) (.int .i64 ((rd_T104 l0 x9_2).f0.f0))) (fun _ hk => hk.2) (.int .i64 ((rd_T104 l0 x9_2).f0.f1))) (fun _ hk => hk.2) (.int .i64 ((rd_T104 l0 x9_2).f0.f2))) (fun _ hk => hk.2) (.string ((rd_T104 l0 x9_2).f0.f3))) (fun _ hk => hk.1.2))); (case aS => exact (below_size (by repeat (((with_reducible first | exact HB.out | refine below_set ?_ GE317.out)))))); (case aL => have := LMc60.out; omega); intro v319 w67 ho hb hg hat; rw [← Ny318.out] at ho; have n0_ := Aside0.mk (Kd.R_over' (by (with_reducible repeat (first | apply Kd.R_alloc | apply Kd.R_drewN | apply Kd.R_drew)); exact (Kd.R_mono (Kd.R_far (p := ⟨gb317, 3, none⟩) (Kd.R_far (p := ⟨gb317, 2, none⟩) (Kd.R_far (p := ⟨gb317, 1, none⟩) (Kd.R_far (p := ⟨gb317, 0, none⟩) (Kd.R_types HO_307000.out BK317.out (by decide)) (fun _ hk => hk.2) (.int .i64 ((rd_T104 l0 x9_2).f0.f0))) (fun _ hk => hk.2) (.int .i64 ((rd_T104 l0 x9_2).f0.f1))) (fun _ hk => hk.2) (.int .i64 ((rd_T104 l0 x9_2).f0.f2))) (fun _ hk => hk.2) (.string ((rd_T104 l0 x9_2).f0.f3))) (fun _ h_ => h_.1))) (Kd.R_typed (by (with_reducible repeat (first | apply Kd.R_alloc | apply Kd.R_drewN | apply Kd.R_drew)); exact (Kd.R_mono (Kd.R_far (p := ⟨gb317, 3, none⟩) (Kd.R_far (p := ⟨gb317, 2, none⟩) (Kd.R_far (p := ⟨gb317, 1, none⟩) (Kd.R_far (p := ⟨gb317, 0, none⟩) (Kd.R_mono HO_307001.out (fun k_ hk => (⟨hk, hk.2⟩ : _ ∧ k_ ≠ gb317))) (fun _ hk => hk.2) (.int .i64 ((rd_T104 l0 x9_2).f0.f0))) (fun _ hk => hk.2) (.int .i64 ((rd_T104 l0 x9_2).f0.f1))) (fun _ hk => hk.2) (.int .i64 ((rd_T104 l0 x9_2).f0.f2))) (fun _ hk => hk.2) (.string ((rd_T104 l0 x9_2).f0.f3))) (fun _ h_ => h_.1)))) (by decide) hg); have n1_ := Aside0.mk (blk_grown (g := gb305) (o := .cells #[.slice none 0 0, .slice none 0 0] 27 (0, 0)) (zz26) hg (Kd.R_ne HO_307001.out BK305.out (by decide))); have n2_ := Aside0.mk (blk_grown (g := gb306) (o := .cells #[.slice Ao56 x307000_1.length co56, u307001] 27 (0, 0)) (zz27) hg (Kd.R_ne HO_307001.out BK306.out (by decide))); have n3_ := Aside0.mk (blk_grown (g := gb317) (o := .cells #[.int .i64 ((rd_T104 l0 x9_2).f0.f0), .int .i64 ((rd_T104 l0 x9_2).f0.f1), .int .i64 ((rd_T104 l0 x9_2).f0.f2), .string ((rd_T104 l0 x9_2).f0.f3)] 41 (0, 0)) (by (with_reducible repeat (first | refine blk_drewN ?_ _ | refine blk_drew ?_ | refine blk_alloc ?_ _)); refine blk_put (cs := #[.int .i64 ((rd_T104 l0 x9_2).f0.f0), .int .i64 ((rd_T104 l0 x9_2).f0.f1), .int .i64 ((rd_T104 l0 x9_2).f0.f2), .string (⟨#[]⟩ : ByteArray)]) ?_ 3 _ rfl; (with_reducible repeat (first | refine blk_drewN ?_ _ | refine blk_drew ?_ | refine blk_alloc ?_ _)); refine blk_put (cs := #[.int .i64 ((rd_T104 l0 x9_2).f0.f0), .int .i64 ((rd_T104 l0 x9_2).f0.f1), .int .i64 0, .string (⟨#[]⟩ : ByteArray)]) ?_ 2 _ rfl; (with_reducible repeat (first | refine blk_drewN ?_ _ | refine blk_drew ?_ | refine blk_alloc ?_ _)); refine blk_put (cs := #[.int .i64 ((rd_T104 l0 x9_2).f0.f0), .int .i64 0, .int .i64 0, .string (⟨#[]⟩ : ByteArray)]) ?_ 1 _ rfl; (with_reducible repeat (first | refine blk_drewN ?_ _ | refine blk_drew ?_ | refine blk_alloc ?_ _)); refine blk_put (cs := #[.int .i64 0, .int .i64 0, .int .i64 0, .string (⟨#[]⟩ : ByteArray)]) ?_ 0 _ rfl; (with_reducible repeat (first | refine blk_drewN ?_ _ | refine blk_drew ?_ | refine blk_alloc ?_ _)); exact BK317.out) hg (Kd.R_away HO_307001.out (fun _ hk => hk.2))); have n4_ := Aside0.mk (hb); have n5_ := Aside0.mk (ho); clear HO_307000; clear BK305; clear BK306; clear BK317; clear HB; clear HO_307001; have HO_307000 := n0_; have BK305 := n1_; have BK306 := n2_; have BK317 := n3_; have HB := n4_; have HO320 := n5_; clear n0_ n1_ n2_ n3_ n4_ n5_; clear ho hb hg hat; obtain ⟨Ao68, co68, eo68⟩ := Kd.R_slice HO320.out; subst eo68; have hcz69_0 : w67.cell? ⟨gb306, 0, none⟩ = some (.slice Ao56 x307000_1.length co56) := (blk_cell BK306.out 0).trans rfl; have hcz69_1 : w67.cell? ⟨gb306, 1, none⟩ = some (u307001) := (blk_cell BK306.out 1).trans rfl; have hfz69_0 := blk_frozen BK306.out 0; have hfz69_1 := blk_frozen BK306.out 1))
            go_roundg k2
            case measure => have := HK1.out; have := HK2.out; omega
            case rel => exact ⟨(wrap64 (x9_2 + 1)), (y318), (.slice Ao68 y318.length co68), (by rfl), H', ⟨by have := HK1.out; have := HK2.out; omega⟩, ⟨by (with_reducible repeat (first | apply Kd.R_alloc | apply Kd.R_drewN | apply Kd.R_drew)); exact Kd.R_mono (Kd.R_far (p := ⟨gb306, 1, none⟩) (Kd.R_types HO_307000.out BK306.out (by decide)) (fun _ hk => hk.2) (.slice Ao68 y318.length co68)) (fun _ hk => trivial)⟩, ⟨by (with_reducible repeat (first | apply Kd.R_alloc | apply Kd.R_drewN | apply Kd.R_drew)); exact Kd.R_mono (Kd.R_far (p := ⟨gb306, 1, none⟩) (Kd.R_types HO320.out BK306.out (by decide)) (fun _ hk => hk.2) (.slice Ao68 y318.length co68)) (fun _ hk => trivial)⟩, ⟨zz39⟩, ⟨zz64⟩, ⟨by repeat (((with_reducible first | exact HB.out | refine below_set ?_ GE306.out)))⟩⟩
           ·rw [if_neg c60] at H
            exact absurd H (by simp)
          ·rw [if_neg c59] at H
           have c59b0 : (((rd_T104 l0 x9_2).f0.f0) == 3) = false := beq_eq_false_iff_ne.mpr c59
           have c59b1 : (((rd_T104 l0 x9_2).f0.f0) != 3) = true := bne_iff_ne.mpr c59
           replace H := Option.bind_eq_some_iff.mp H
           obtain ⟨t322, A700, H⟩ := H
           have A70 := Aside0.mk A700
           clear A700
           by_cases c71 : x307001_2.length < 3518437208883
           ·rw [if_pos c71] at H
            have LMc71 := Aside0.mk c71
            clear c71
            obtain ⟨y323, hy323⟩ : ∃ y_ : List (S41), y_ = (x307001_2 ++ [(⟨(rd_T104 l0 x9_2).f0.f0, t322, (rd_T104 l0 x9_2).f0.f2, (rd_T104 l0 x9_2).f0.f3⟩ : S41)]) := ⟨_, rfl⟩
            replace H : (R3_limited.l1 k2 l0 (wrap64 (x9_2 + 1)) x307000_1 y323) = some (r1, r2, r3) := by ((rw [hy323]; with_reducible exact H))
            have Ny323 := Aside0.mk hy323
            clear hy323
            have H' := Aside0.mk H
            clear H
            have p316 : 0 ≤ (x9_2 : Int) := of_decide_eq_true (zz5)
            have q316 : x9_2 < (l0.length : Int) := of_decide_eq_true (zz5)
            obtain ⟨ad316, e316, hx316_0, hx316_1, hx316_2, hx316_3, hx316_4⟩ := at_T104 HR0.out x9_2 p316 q316
            cases e316
            replace hx316_0 := (HB.out.cell (World.block_lt_of_cell? w _ hx316_0)).trans hx316_0
            replace hx316_1 := (HB.out.cell (World.block_lt_of_cell? w _ hx316_1)).trans hx316_1
            replace hx316_2 := (HB.out.cell (World.block_lt_of_cell? w _ hx316_2)).trans hx316_2
            replace hx316_3 := (HB.out.cell (World.block_lt_of_cell? w _ hx316_3)).trans hx316_3
            replace hx316_4 := (HB.out.cell (World.block_lt_of_cell? w _ hx316_4)).trans hx316_4
            replace p316 := eq_true p316
            replace q316 := eq_true q316
            (go_wp2_with ((((with_reducible refine gate_dst (N := 10) rfl ?_); refine box_event ?hg (N := 10) ?hd (cs := #[.int .i64 0, .int .i64 0, .int .i64 0, .string (⟨#[]⟩ : ByteArray)]) (t := 41) ?hr ?_; (case hd => rfl); (case hg => rfl); (case hr => ((go_simp; done))); intro gb317 hg w72 hbox hb; have n0_ := Aside0.mk (Kd.R_below (zz25) hb); have n1_ := Aside0.mk (Kd.R_below (Kd.R_elderB (by (with_reducible repeat (first | apply Kd.R_alloc | apply Kd.R_drewN | apply Kd.R_drew)); exact HO_307001.out) gb317 (Nat.le_of_eq hg.symm)) hb); have n2_ := Aside0.mk (blk_below (g := gb305) (o := .cells #[.slice none 0 0, .slice none 0 0] 27 (0, 0)) (zz8) hb); have n3_ := Aside0.mk (blk_below (g := gb306) (o := .cells #[.slice Ao56 x307000_1.length co56, u307001] 27 (0, 0)) (zz9) hb); have n4_ := Aside0.mk (below_step (zz0) hb); have n5_ := Aside0.mk (hbox); have n6_ := Aside0.mk ((zz18 : w.heap.size ≤ gb317)); have n7_ := Aside0.mk ((zz18 : w.heap.size ≤ gb317)); have n8_ := Aside0.mk ((zz56 : gb305 ≠ gb317)); have n9_ := Aside0.mk ((zz57 : gb317 ≠ gb305)); have n10_ := Aside0.mk ((by rw [hg]; exact Nat.ne_of_lt (blk_lt (g := gb306) (o := .cells #[.slice Ao56 x307000_1.length co56, u307001] 27 (0, 0)) (zz9)) : gb306 ≠ gb317)); have n11_ := Aside0.mk ((by rw [hg]; exact Nat.ne_of_gt (blk_lt (g := gb306) (o := .cells #[.slice Ao56 x307000_1.length co56, u307001] 27 (0, 0)) (zz9)) : gb317 ≠ gb306)); clear HO_307000; clear HO_307001; clear BK305; clear BK306; clear HB; have HO_307000 := n0_; have HO_307001 := n1_; have BK305 := n2_; have BK306 := n3_; have HB := n4_; have BK317 := n5_; have GW317 := n6_; have GE317 := n7_; have NB305_317 := n8_; have NB317_305 := n9_; have NB306_317 := n10_; have NB317_306 := n11_; clear n0_ n1_ n2_ n3_ n4_ n5_ n6_ n7_ n8_ n9_ n10_ n11_; clear hb hbox hg; have hnb73 := NB317_305.out; have hnc73 := NB305_317.out; have hnb74 := NB317_306.out; have hnc74 := NB306_317.out; have hcz75_0 : w72.cell? ⟨gb317, 0, none⟩ = some (.int .i64 0) := (blk_cell BK317.out 0).trans rfl; have hcz75_1 : w72.cell? ⟨gb317, 1, none⟩ = some (.int .i64 0) := (blk_cell BK317.out 1).trans rfl; have hcz75_2 : w72.cell? ⟨gb317, 2, none⟩ = some (.int .i64 0) := (blk_cell BK317.out 2).trans rfl; have hcz75_3 : w72.cell? ⟨gb317, 3, none⟩ = some (.string (⟨#[]⟩ : ByteArray)) := (blk_cell BK317.out 3).trans rfl; have hfz75_0 := blk_frozen BK317.out 0; have hfz75_1 := blk_frozen BK317.out 1; have hfz75_2 := blk_frozen BK317.out 2; have hfz75_3 := blk_frozen BK317.out 3))))
            have n0_ : Aside0 (Kd.R Kd.string 9 ((((w72.setCell ⟨gb317, 0, none⟩ (.int .i64 ((rd_T104 l0 x9_2).f0.f0))).setCell ⟨gb317, 1, none⟩ (.int .i64 ((rd_T104 l0 x9_2).f0.f1))).setCell ⟨gb317, 2, none⟩ (.int .i64 ((rd_T104 l0 x9_2).f0.f2))).setCell ⟨gb317, 3, none⟩ (.string ((rd_T104 l0 x9_2).f0.f3))) w.heap.size (fun _ => True) (.slice Ao56 x307000_1.length co56) x307000_1) := ⟨by (with_reducible repeat (first | apply Kd.R_alloc | apply Kd.R_drewN | apply Kd.R_drew)); exact Kd.R_mono (Kd.R_far (p := ⟨gb317, 3, none⟩) (Kd.R_far (p := ⟨gb317, 2, none⟩) (Kd.R_far (p := ⟨gb317, 1, none⟩) (Kd.R_far (p := ⟨gb317, 0, none⟩) (Kd.R_types HO_307000.out BK317.out (by decide)) (fun _ hk => hk.2) (.int .i64 ((rd_T104 l0 x9_2).f0.f0))) (fun _ hk => hk.2) (.int .i64 ((rd_T104 l0 x9_2).f0.f1))) (fun _ hk => hk.2) (.int .i64 ((rd_T104 l0 x9_2).f0.f2))) (fun _ hk => hk.2) (.string ((rd_T104 l0 x9_2).f0.f3))) (fun _ hk => trivial)⟩
            have n1_ : Aside0 (Kd.R k41 41 ((((w72.setCell ⟨gb317, 0, none⟩ (.int .i64 ((rd_T104 l0 x9_2).f0.f0))).setCell ⟨gb317, 1, none⟩ (.int .i64 ((rd_T104 l0 x9_2).f0.f1))).setCell ⟨gb317, 2, none⟩ (.int .i64 ((rd_T104 l0 x9_2).f0.f2))).setCell ⟨gb317, 3, none⟩ (.string ((rd_T104 l0 x9_2).f0.f3))) w.heap.size (fun k_ => k_ ≠ gb317) u307001 x307001_2) := ⟨by (with_reducible repeat (first | apply Kd.R_alloc | apply Kd.R_drewN | apply Kd.R_drew)); exact Kd.R_mono (Kd.R_far (p := ⟨gb317, 3, none⟩) (Kd.R_far (p := ⟨gb317, 2, none⟩) (Kd.R_far (p := ⟨gb317, 1, none⟩) (Kd.R_far (p := ⟨gb317, 0, none⟩) (Kd.R_mono HO_307001.out (fun k_ hk => (⟨hk, hk.2⟩ : _ ∧ k_ ≠ gb317))) (fun _ hk => hk.2) (.int .i64 ((rd_T104 l0 x9_2).f0.f0))) (fun _ hk => hk.2) (.int .i64 ((rd_T104 l0 x9_2).f0.f1))) (fun _ hk => hk.2) (.int .i64 ((rd_T104 l0 x9_2).f0.f2))) (fun _ hk => hk.2) (.string ((rd_T104 l0 x9_2).f0.f3))) (fun _ hk => hk.1.2)⟩
            have n2_ : Aside0 (((((w72.setCell ⟨gb317, 0, none⟩ (.int .i64 ((rd_T104 l0 x9_2).f0.f0))).setCell ⟨gb317, 1, none⟩ (.int .i64 ((rd_T104 l0 x9_2).f0.f1))).setCell ⟨gb317, 2, none⟩ (.int .i64 ((rd_T104 l0 x9_2).f0.f2))).setCell ⟨gb317, 3, none⟩ (.string ((rd_T104 l0 x9_2).f0.f3))).heap[gb305]? = some (.cells #[.slice none 0 0, .slice none 0 0] 27 (0, 0))) := ⟨zz26⟩
            have n3_ : Aside0 (((((w72.setCell ⟨gb317, 0, none⟩ (.int .i64 ((rd_T104 l0 x9_2).f0.f0))).setCell ⟨gb317, 1, none⟩ (.int .i64 ((rd_T104 l0 x9_2).f0.f1))).setCell ⟨gb317, 2, none⟩ (.int .i64 ((rd_T104 l0 x9_2).f0.f2))).setCell ⟨gb317, 3, none⟩ (.string ((rd_T104 l0 x9_2).f0.f3))).heap[gb306]? = some (.cells #[.slice Ao56 x307000_1.length co56, u307001] 27 (0, 0))) := ⟨zz27⟩
            have n4_ : Aside0 (((((w72.setCell ⟨gb317, 0, none⟩ (.int .i64 ((rd_T104 l0 x9_2).f0.f0))).setCell ⟨gb317, 1, none⟩ (.int .i64 ((rd_T104 l0 x9_2).f0.f1))).setCell ⟨gb317, 2, none⟩ (.int .i64 ((rd_T104 l0 x9_2).f0.f2))).setCell ⟨gb317, 3, none⟩ (.string ((rd_T104 l0 x9_2).f0.f3))).heap[gb317]? = some (.cells #[.int .i64 ((rd_T104 l0 x9_2).f0.f0), .int .i64 ((rd_T104 l0 x9_2).f0.f1), .int .i64 ((rd_T104 l0 x9_2).f0.f2), .string ((rd_T104 l0 x9_2).f0.f3)] 41 (0, 0))) := ⟨by (with_reducible repeat (first | refine blk_drewN ?_ _ | refine blk_drew ?_ | refine blk_alloc ?_ _)); refine blk_put (cs := #[.int .i64 ((rd_T104 l0 x9_2).f0.f0), .int .i64 ((rd_T104 l0 x9_2).f0.f1), .int .i64 ((rd_T104 l0 x9_2).f0.f2), .string (⟨#[]⟩ : ByteArray)]) ?_ 3 _ rfl; (with_reducible repeat (first | refine blk_drewN ?_ _ | refine blk_drew ?_ | refine blk_alloc ?_ _)); refine blk_put (cs := #[.int .i64 ((rd_T104 l0 x9_2).f0.f0), .int .i64 ((rd_T104 l0 x9_2).f0.f1), .int .i64 0, .string (⟨#[]⟩ : ByteArray)]) ?_ 2 _ rfl; (with_reducible repeat (first | refine blk_drewN ?_ _ | refine blk_drew ?_ | refine blk_alloc ?_ _)); refine blk_put (cs := #[.int .i64 ((rd_T104 l0 x9_2).f0.f0), .int .i64 0, .int .i64 0, .string (⟨#[]⟩ : ByteArray)]) ?_ 1 _ rfl; (with_reducible repeat (first | refine blk_drewN ?_ _ | refine blk_drew ?_ | refine blk_alloc ?_ _)); refine blk_put (cs := #[.int .i64 0, .int .i64 0, .int .i64 0, .string (⟨#[]⟩ : ByteArray)]) ?_ 0 _ rfl; (with_reducible repeat (first | refine blk_drewN ?_ _ | refine blk_drew ?_ | refine blk_alloc ?_ _)); exact BK317.out⟩
            have n5_ : Aside0 (Below w.heap.size w ((((w72.setCell ⟨gb317, 0, none⟩ (.int .i64 ((rd_T104 l0 x9_2).f0.f0))).setCell ⟨gb317, 1, none⟩ (.int .i64 ((rd_T104 l0 x9_2).f0.f1))).setCell ⟨gb317, 2, none⟩ (.int .i64 ((rd_T104 l0 x9_2).f0.f2))).setCell ⟨gb317, 3, none⟩ (.string ((rd_T104 l0 x9_2).f0.f3)))) := ⟨by repeat (((with_reducible first | exact HB.out | refine below_set ?_ GE317.out)))⟩
            (clear HO_307000)
            (clear HO_307001)
            (clear BK305)
            (clear BK306)
            (clear BK317)
            (clear HB)
            generalize ((((w72.setCell ⟨gb317, 0, none⟩ (.int .i64 ((rd_T104 l0 x9_2).f0.f0))).setCell ⟨gb317, 1, none⟩ (.int .i64 ((rd_T104 l0 x9_2).f0.f1))).setCell ⟨gb317, 2, none⟩ (.int .i64 ((rd_T104 l0 x9_2).f0.f2))).setCell ⟨gb317, 3, none⟩ (.string ((rd_T104 l0 x9_2).f0.f3))) = w76 at n0_ n1_ n2_ n3_ n4_ n5_ ⊢
            have HO_307000 := n0_
            have HO_307001 := n1_
            have BK305 := n2_
            have BK306 := n3_
            have BK317 := n4_
            have HB := n5_
            clear n0_ n1_ n2_ n3_ n4_ n5_
            have n0_ := Aside0.mk (Kd.R_drew HO_307000.out)
            have n1_ := Aside0.mk (Kd.R_drew HO_307001.out)
            have n2_ := Aside0.mk (blk_drew BK305.out)
            have n3_ := Aside0.mk (blk_drew BK306.out)
            have n4_ := Aside0.mk (blk_drew BK317.out)
            have n5_ := Aside0.mk (below_drew1 HB.out)
            clear HO_307000
            clear HO_307001
            clear BK305
            clear BK306
            clear BK317
            clear HB
            have HO_307000 := n0_
            have HO_307001 := n1_
            have BK305 := n2_
            have BK306 := n3_
            have BK317 := n4_
            have HB := n5_
            clear n0_ n1_ n2_ n3_ n4_ n5_
            have p321 : 0 ≤ (x9_2 : Int) := of_decide_eq_true (zz5)
            have q321 : x9_2 < (l0.length : Int) := of_decide_eq_true (zz5)
            obtain ⟨ad321, e321, hx321_0, hx321_1, hx321_2, hx321_3, hx321_4⟩ := at_T104 HR0.out x9_2 p321 q321
            have hw321_4 := hx321_4
            have hw321_3 := hx321_3
            have hw321_2 := hx321_2
            have hw321_1 := hx321_1
            have hw321_0 := hx321_0
            obtain rfl : ad316 = ad321 := (by injection e321)
            replace hx321_0 := (HB.out.cell (World.block_lt_of_cell? w _ hx321_0)).trans hx321_0
            replace hx321_1 := (HB.out.cell (World.block_lt_of_cell? w _ hx321_1)).trans hx321_1
            replace hx321_2 := (HB.out.cell (World.block_lt_of_cell? w _ hx321_2)).trans hx321_2
            replace hx321_3 := (HB.out.cell (World.block_lt_of_cell? w _ hx321_3)).trans hx321_3
            replace hx321_4 := (HB.out.cell (World.block_lt_of_cell? w _ hx321_4)).trans hx321_4
            replace p321 := eq_true p321
            replace q321 := eq_true q321
            refine start_ (n := 10) (S := fun w' => w'.cell? ⟨gb306, 0, none⟩ = some (.slice Ao56 x307000_1.length co56) ∧ w'.cell? ⟨gb306, 1, none⟩ = some (u307001) ∧ w'.cell? (ad316.add ((x9_2).toNat * 5)) = some (.int .i64 ((rd_T104 l0 x9_2).f0.f0)) ∧ w'.cell? ⟨(ad316.add ((x9_2).toNat * 5)).block, (ad316.add ((x9_2).toNat * 5)).off + 1, none⟩ = some (.int .i64 ((rd_T104 l0 x9_2).f0.f1)) ∧ w'.cell? ⟨(ad316.add ((x9_2).toNat * 5)).block, (ad316.add ((x9_2).toNat * 5)).off + 2, none⟩ = some (.int .i64 ((rd_T104 l0 x9_2).f0.f2)) ∧ w'.cell? ⟨(ad316.add ((x9_2).toNat * 5)).block, (ad316.add ((x9_2).toNat * 5)).off + 3, none⟩ = some (.string ((rd_T104 l0 x9_2).f0.f3)) ∧ w'.cell? ⟨(ad316.add ((x9_2).toNat * 5)).block, (ad316.add ((x9_2).toNat * 5)).off + 4, none⟩ = some (.string ((rd_T104 l0 x9_2).f1))) (ds := []) #[false, false, false, false, false, false, false, false, false, false] (by kernel_rfl) rfl rfl ⟨(blk_cell BK306.out 0).trans rfl, (blk_cell BK306.out 1).trans rfl, ((HB.out.cell (World.block_lt_of_cell? w _ hw321_0)).trans hw321_0), ((HB.out.cell (World.block_lt_of_cell? w _ hw321_1)).trans hw321_1), ((HB.out.cell (World.block_lt_of_cell? w _ hw321_2)).trans hw321_2), ((HB.out.cell (World.block_lt_of_cell? w _ hw321_3)).trans hw321_3), ((HB.out.cell (World.block_lt_of_cell? w _ hw321_4)).trans hw321_4)⟩ (fun hHeld => ?_); refine with_tabW R3_limited.tab24 R3_limited.bits24 (fun HT_ HW_ => ?_)
            generalize w76.drew = w77 at HO_307000 HO_307001 BK305 BK306 BK317 HB hx321_0 hx321_1 hx321_2 hx321_3 hx321_4 hHeld ⊢
            refine pure_ (i := 0) (N := some 78) (v := ?_) (a' := ?_) #[true, false, false, false, false, false, false, false, false, false] rfl rfl (any_of HT_.out (by kernel_rfl)) (fun _ _ _ h => h) (Or.inl ⟨by rfl, ?_⟩) ?_ ?_
            rotate_left
            ·intro w'
             go_simp
             with_reducible rfl
            rotate_left
            ·simp only [Act.put, List.setIfInBounds_toArray, List.set_cons_zero, List.set_cons_succ, i64_w, i32_w]
             rfl
            refine pure_ (i := 2) (N := some 80) (v := ?_) (a' := ?_) #[true, false, true, false, false, false, false, false, false, false] rfl rfl (any_of HT_.out (by kernel_rfl)) (fun _ _ _ h => h) (Or.inl ⟨by rfl, ?_⟩) ?_ ?_
            rotate_left
            ·intro w'
             go_simp
             with_reducible rfl
            rotate_left
            ·simp only [Act.put, List.setIfInBounds_toArray, List.set_cons_zero, List.set_cons_succ, i64_w, i32_w]
             rfl
            refine pure_ (i := 3) (N := some 81) (v := ?_) (a' := ?_) #[true, false, true, true, false, false, false, false, false, false] rfl rfl (any_of HT_.out (by kernel_rfl)) (fun _ _ _ h => h) (Or.inl ⟨by rfl, ?_⟩) ?_ ?_
            rotate_left
            ·intro w'
             go_simp
             with_reducible rfl
            rotate_left
            ·simp only [Act.put, List.setIfInBounds_toArray, List.set_cons_zero, List.set_cons_succ, i64_w, i32_w]
             rfl
            refine pure_ (i := 4) (N := some 82) (v := ?_) (a' := ?_) #[true, false, true, true, true, false, false, false, false, false] rfl rfl (any_of HT_.out (by kernel_rfl)) (fun _ _ _ h => h) (Or.inl ⟨by rfl, ?_⟩) ?_ ?_
            rotate_left
            ·intro w'
             go_simp
             with_reducible rfl
            rotate_left
            ·simp only [Act.put, List.setIfInBounds_toArray, List.set_cons_zero, List.set_cons_succ, i64_w, i32_w]
             rfl
            refine pure_ (i := 5) (N := some 83) (v := ?_) (a' := ?_) #[true, false, true, true, true, true, false, false, false, false] rfl rfl (any_of HT_.out (by kernel_rfl)) (fun _ _ _ h => h) (Or.inl ⟨by rfl, ?_⟩) ?_ ?_
            rotate_left
            ·intro w'
             go_simp
             with_reducible rfl
            rotate_left
            ·simp only [Act.put, List.setIfInBounds_toArray, List.set_cons_zero, List.set_cons_succ, i64_w, i32_w]
             rfl
            refine take_ (i := 1) (N := some 79) (v := ?_) (a' := ?_) #[true, true, true, true, true, true, false, false, false, false] rfl rfl (take_ofW HT_.out HW_.out (by kernel_rfl)) (fun _ _ _ h => h) (Or.inl ⟨by rfl, ?_⟩) hHeld ?_ ?_
            rotate_left
            ·rintro w' ⟨s0, s1, s2, s3, s4, s5, s6⟩
             go_simp
             with_reducible rfl
            rotate_left
            ·simp only [Act.put, List.setIfInBounds_toArray, List.set_cons_zero, List.set_cons_succ, i64_w, i32_w]
             rfl
            refine take_ (i := 6) (N := some 84) (v := ?_) (a' := ?_) #[true, true, true, true, true, true, true, false, false, false] rfl rfl (take_ofW HT_.out HW_.out (by kernel_rfl)) (fun _ _ _ h => h) (Or.inl ⟨by rfl, ?_⟩) hHeld ?_ ?_
            rotate_left
            ·rintro w' ⟨s0, s1, s2, s3, s4, s5, s6⟩
             go_simp
             with_reducible rfl
            rotate_left
            ·simp only [Act.put, List.setIfInBounds_toArray, List.set_cons_zero, List.set_cons_succ, i64_w, i32_w]
             rfl
            refine one_ (i := 7) (N := some 85) #[true, true, true, true, true, true, true, true, false, false] rfl rfl (one_of HT_.out (by kernel_rfl)) (by decide) (fun K hK => ?_)
            refine goes_ Tryz.func69 (by kernel_rfl) rfl #[.slice Ao56 x307000_1.length co56, .string ((rd_T104 l0 x9_2).f1)] (by rfl) rfl rfl (zz1) ?_
            with_reducible refine (R3_Number.calls k2 _ _ x307000_1 ((rd_T104 l0 x9_2).f1) t322 _ ?side1 ?side2 A70.out).mono ?_
            (case side1 => repeat (exact (Kd.R_reads' HO_307000.out).2.2))
            (case side2 => exact (Kd.R_reads' HO_307000.out).2.1)
            rintro e w' ⟨rfl, ⟨nd, rfl⟩⟩
            refine ⟨_, rfl, ?_⟩
            refine hK.out _ _ ⟨(blk_cell BK306.out 0).trans rfl, (blk_cell BK306.out 1).trans rfl, ((HB.out.cell (World.block_lt_of_cell? w _ hw321_0)).trans hw321_0), ((HB.out.cell (World.block_lt_of_cell? w _ hw321_1)).trans hw321_1), ((HB.out.cell (World.block_lt_of_cell? w _ hw321_2)).trans hw321_2), ((HB.out.cell (World.block_lt_of_cell? w _ hw321_3)).trans hw321_3), ((HB.out.cell (World.block_lt_of_cell? w _ hw321_4)).trans hw321_4)⟩ (fun hHeld => ?_)
            clear hK K
            refine norm_ (a' := ?_) ?_ ?_
            rotate_left
            ·show Act.put _ (some 85) _ = _
             simp only [Act.put, List.setIfInBounds_toArray, List.set_cons_zero, List.set_cons_succ, i64_w, i32_w]
             rfl
            refine pure_ (i := 8) (N := some 86) (v := ?_) (a' := ?_) #[true, true, true, true, true, true, true, true, true, false] rfl rfl (any_of HT_.out (by kernel_rfl)) (fun _ _ _ h => h) (Or.inl ⟨by rfl, ?_⟩) ?_ ?_
            rotate_left
            ·intro w'
             go_simp
             with_reducible rfl
            rotate_left
            ·simp only [Act.put, List.setIfInBounds_toArray, List.set_cons_zero, List.set_cons_succ, i64_w, i32_w]
             rfl
            refine one_ (i := 9) (N := none) #[true, true, true, true, true, true, true, true, true, true] rfl rfl (one_of HT_.out (by kernel_rfl)) (by decide) (fun K hK => ?_)
            have hs78 : w77.cell? ⟨gb317, 1, none⟩ = some (.int .i64 ((rd_T104 l0 x9_2).f0.f1)) := (blk_cell BK317.out 1).trans rfl
            have hfs78 := blk_frozen BK317.out 1
            have hns78_0 := NB305_317.out
            have hns78_1 := NB306_317.out
            have hms78_0 := NB317_305.out
            have hms78_1 := NB317_306.out
            refine skip_ (w1 := ?_) (by rfl) rfl ?_ ?_
            rotate_left
            ·go_simp
             rfl
            refine hK.out _ _ ⟨((cell_far (p := ⟨gb317, _, none⟩) NB306_317.out _).trans (hHeld.1)), ((cell_far (p := ⟨gb317, _, none⟩) NB306_317.out _).trans (hHeld.2.1)), ((cell_far (p := ⟨gb317, _, none⟩) (by (exact Nat.ne_of_lt (Nat.lt_of_lt_of_le (by have := World.block_lt_of_cell? _ _ hw321_0; exact this) GW317.out))) _).trans (hHeld.2.2.1)), ((cell_far (p := ⟨gb317, _, none⟩) (by (exact Nat.ne_of_lt (Nat.lt_of_lt_of_le (by have := World.block_lt_of_cell? _ _ hw321_1; exact this) GW317.out))) _).trans (hHeld.2.2.2.1)), ((cell_far (p := ⟨gb317, _, none⟩) (by (exact Nat.ne_of_lt (Nat.lt_of_lt_of_le (by have := World.block_lt_of_cell? _ _ hw321_2; exact this) GW317.out))) _).trans (hHeld.2.2.2.2.1)), ((cell_far (p := ⟨gb317, _, none⟩) (by (exact Nat.ne_of_lt (Nat.lt_of_lt_of_le (by have := World.block_lt_of_cell? _ _ hw321_3; exact this) GW317.out))) _).trans (hHeld.2.2.2.2.2.1)), ((cell_far (p := ⟨gb317, _, none⟩) (by (exact Nat.ne_of_lt (Nat.lt_of_lt_of_le (by have := World.block_lt_of_cell? _ _ hw321_4; exact this) GW317.out))) _).trans (hHeld.2.2.2.2.2.2))⟩ (fun hHeld => ?_)
            clear hK K
            refine done_ (done_of HT_.out (by kernel_rfl)) ?_
            have hnb79 := NB306_305.out
            have hnc79 := NB305_306.out
            have hcz80_0 : w77.cell? ⟨gb306, 0, none⟩ = some (.slice Ao56 x307000_1.length co56) := (blk_cell BK306.out 0).trans rfl
            have hcz80_1 : w77.cell? ⟨gb306, 1, none⟩ = some (u307001) := (blk_cell BK306.out 1).trans rfl
            have hfz80_0 := blk_frozen BK306.out 0
            have hfz80_1 := blk_frozen BK306.out 1
            have hcz81_0 : w77.cell? ⟨gb317, 0, none⟩ = some (.int .i64 ((rd_T104 l0 x9_2).f0.f0)) := (blk_cell BK317.out 0).trans rfl
            have hcz81_1 : w77.cell? ⟨gb317, 1, none⟩ = some (.int .i64 ((rd_T104 l0 x9_2).f0.f1)) := (blk_cell BK317.out 1).trans rfl
            have hcz81_2 : w77.cell? ⟨gb317, 2, none⟩ = some (.int .i64 ((rd_T104 l0 x9_2).f0.f2)) := (blk_cell BK317.out 2).trans rfl
            have hcz81_3 : w77.cell? ⟨gb317, 3, none⟩ = some (.string ((rd_T104 l0 x9_2).f0.f3)) := (blk_cell BK317.out 3).trans rfl
            have hfz81_0 := blk_frozen BK317.out 0
            have hfz81_1 := blk_frozen BK317.out 1
            have hfz81_2 := blk_frozen BK317.out 2
            have hfz81_3 := blk_frozen BK317.out 3
            (go_wp2_with ((((with_reducible refine gate_builtin (b := .append) (xs := #[.tmp 88, .tmp 90]) rfl ?_); at_builtin; refine Kd.R_append k41 (w0 := w) w.heap.size rfl (.tmp 88) (.tmp 90) 25 41 (.agg #[(.int .i64 0), (.int .i64 0), (.int .i64 0), (.string ⟨#[]⟩)]) 40 rfl Tryz.underlying25 info41 rfl (by decide) (by omega) u307001 x307001_2 (⟨(rd_T104 l0 x9_2).f0.f0, t322, (rd_T104 l0 x9_2).f0.f2, (rd_T104 l0 x9_2).f0.f3⟩ : S41) [.int .i64 ((rd_T104 l0 x9_2).f0.f0), .int .i64 t322, .int .i64 ((rd_T104 l0 x9_2).f0.f2), .string ((rd_T104 l0 x9_2).f0.f3)] (fun k_ => k_ ≠ gb317) (fun _ => False) rfl (by ((go_simp; done))) ?aP (fun _ hk => hk.elim) ?aF ?aO ?aB ?aS ?aL ?_; (case aP => exact k41_mkM _ _ _ (⟨(rd_T104 l0 x9_2).f0.f0, t322, (rd_T104 l0 x9_2).f0.f2, (rd_T104 l0 x9_2).f0.f3⟩ : S41)); (case aB => exact (by repeat (((with_reducible first | exact HB.out | apply pw_below_drewN | refine below_set ?_ GE317.out))))); (case aF => exact (fun k_ hk => Kd.freshB (g := gb317) (o := .cells #[.int .i64 ((rd_T104 l0 x9_2).f0.f0), .int .i64 t322, .int .i64 ((rd_T104 l0 x9_2).f0.f2), .string ((rd_T104 l0 x9_2).f0.f3)] 41 (0, 0)) (by (with_reducible repeat (first | refine blk_drewN ?_ _ | refine blk_drew ?_ | refine blk_alloc ?_ _)); refine blk_put (cs := #[.int .i64 ((rd_T104 l0 x9_2).f0.f0), .int .i64 ((rd_T104 l0 x9_2).f0.f1), .int .i64 ((rd_T104 l0 x9_2).f0.f2), .string ((rd_T104 l0 x9_2).f0.f3)]) ?_ 1 _ rfl; (with_reducible repeat (refine blk_drewN ?_ _)); exact BK317.out) k_ hk)); (case aO => exact (by (with_reducible repeat (first | apply Kd.R_alloc | apply Kd.R_drewN | apply Kd.R_drew)); exact Kd.R_mono (Kd.R_far (p := ⟨gb317, 1, none⟩) (Kd.R_mono HO_307001.out (fun k_ hk => (⟨hk, hk⟩ : _ ∧ k_ ≠ gb317))) (fun _ hk => hk.2) (.int .i64 t322)) (fun _ hk => hk.1))); (case aS => exact (below_size (by repeat (((with_reducible first | exact HB.out | apply pw_below_drewN | refine below_set ?_ GE317.out)))))); (case aL => have := LMc71.out; omega); intro v324 w82 ho hb hg hat; rw [← Ny323.out] at ho; have n0_ := Aside0.mk (Kd.R_over' (by (with_reducible repeat (first | apply Kd.R_alloc | apply Kd.R_drewN | apply Kd.R_drew)); exact (Kd.R_mono (Kd.R_far (p := ⟨gb317, 1, none⟩) (Kd.R_types HO_307000.out BK317.out (by decide)) (fun _ hk => hk.2) (.int .i64 t322)) (fun _ h_ => h_.1))) (Kd.R_typed (by (with_reducible repeat (first | apply Kd.R_alloc | apply Kd.R_drewN | apply Kd.R_drew)); exact (Kd.R_mono (Kd.R_far (p := ⟨gb317, 1, none⟩) (Kd.R_mono HO_307001.out (fun k_ hk => (⟨hk, hk⟩ : _ ∧ k_ ≠ gb317))) (fun _ hk => hk.2) (.int .i64 t322)) (fun _ h_ => h_.1)))) (by decide) hg); have n1_ := Aside0.mk (blk_grown (g := gb305) (o := .cells #[.slice none 0 0, .slice none 0 0] 27 (0, 0)) (by (with_reducible repeat (first | refine blk_drewN ?_ _ | refine blk_drew ?_ | refine blk_alloc ?_ _)); refine blk_far ?_ NB305_317.out _; (with_reducible repeat (refine blk_drewN ?_ _)); exact BK305.out) hg (Kd.R_ne HO_307001.out BK305.out (by decide))); have n2_ := Aside0.mk (blk_grown (g := gb306) (o := .cells #[.slice Ao56 x307000_1.length co56, u307001] 27 (0, 0)) (by (with_reducible repeat (first | refine blk_drewN ?_ _ | refine blk_drew ?_ | refine blk_alloc ?_ _)); refine blk_far ?_ NB306_317.out _; (with_reducible repeat (refine blk_drewN ?_ _)); exact BK306.out) hg (Kd.R_ne HO_307001.out BK306.out (by decide))); have n3_ := Aside0.mk (blk_grown (g := gb317) (o := .cells #[.int .i64 ((rd_T104 l0 x9_2).f0.f0), .int .i64 t322, .int .i64 ((rd_T104 l0 x9_2).f0.f2), .string ((rd_T104 l0 x9_2).f0.f3)] 41 (0, 0)) (by (with_reducible repeat (first | refine blk_drewN ?_ _ | refine blk_drew ?_ | refine blk_alloc ?_ _)); refine blk_put (cs := #[.int .i64 ((rd_T104 l0 x9_2).f0.f0), .int .i64 ((rd_T104 l0 x9_2).f0.f1), .int .i64 ((rd_T104 l0 x9_2).f0.f2), .string ((rd_T104 l0 x9_2).f0.f3)]) ?_ 1 _ rfl; (with_reducible repeat (refine blk_drewN ?_ _)); exact BK317.out) hg (Kd.R_away HO_307001.out (fun _ hk => hk))); have n4_ := Aside0.mk (hb); have n5_ := Aside0.mk (ho); clear HO_307000; clear BK305; clear BK306; clear BK317; clear HB; clear HO_307001; have HO_307000 := n0_; have BK305 := n1_; have BK306 := n2_; have BK317 := n3_; have HB := n4_; have HO325 := n5_; clear n0_ n1_ n2_ n3_ n4_ n5_; clear ho hb hg hat; obtain ⟨Ao83, co83, eo83⟩ := Kd.R_slice HO325.out; subst eo83; have hcz84_0 : w82.cell? ⟨gb306, 0, none⟩ = some (.slice Ao56 x307000_1.length co56) := (blk_cell BK306.out 0).trans rfl; have hcz84_1 : w82.cell? ⟨gb306, 1, none⟩ = some (u307001) := (blk_cell BK306.out 1).trans rfl; have hfz84_0 := blk_frozen BK306.out 0; have hfz84_1 := blk_frozen BK306.out 1))))
            go_roundg k2
            case measure => have := HK1.out; have := HK2.out; omega
            case rel => exact ⟨(wrap64 (x9_2 + 1)), (y323), (.slice Ao83 y323.length co83), (by rfl), H', ⟨by have := HK1.out; have := HK2.out; omega⟩, ⟨by (with_reducible repeat (first | apply Kd.R_alloc | apply Kd.R_drewN | apply Kd.R_drew)); exact Kd.R_mono (Kd.R_far (p := ⟨gb306, 1, none⟩) (Kd.R_types HO_307000.out BK306.out (by decide)) (fun _ hk => hk.2) (.slice Ao83 y323.length co83)) (fun _ hk => trivial)⟩, ⟨by (with_reducible repeat (first | apply Kd.R_alloc | apply Kd.R_drewN | apply Kd.R_drew)); exact Kd.R_mono (Kd.R_far (p := ⟨gb306, 1, none⟩) (Kd.R_types HO325.out BK306.out (by decide)) (fun _ hk => hk.2) (.slice Ao83 y323.length co83)) (fun _ hk => trivial)⟩, ⟨zz39⟩, ⟨zz64⟩, ⟨by repeat (((with_reducible first | exact HB.out | refine below_set ?_ GE306.out)))⟩⟩
           ·rw [if_neg c71] at H
            exact absurd H (by simp)
         ·rw [if_neg c58] at H
          exact absurd H (by simp)
        ·rw [if_neg c57] at H
         have c57b0 : decide (x9_2 < (l0.length : Int)) = false := decide_eq_false c57
         clear c57
         simp only [Option.some.injEq, Prod.mk.injEq] at H
         obtain ⟨rfl, rfl, rfl⟩ := H
         have hnb85 := NB306_305.out
         have hnc85 := NB305_306.out
         have hcz86_0 : wr.cell? ⟨gb306, 0, none⟩ = some (.slice Ao56 x307000_1.length co56) := (blk_cell BK306.out 0).trans rfl
         have hcz86_1 : wr.cell? ⟨gb306, 1, none⟩ = some (u307001) := (blk_cell BK306.out 1).trans rfl
         have hfz86_0 := blk_frozen BK306.out 0
         have hfz86_1 := blk_frozen BK306.out 1
         have hcz87_0 : wr.cell? ⟨gb305, 0, none⟩ = some (.slice none 0 0) := (blk_cell BK305.out 0).trans rfl
         have hcz87_1 : wr.cell? ⟨gb305, 1, none⟩ = some (.slice none 0 0) := (blk_cell BK305.out 1).trans rfl
         have hfz87_0 := blk_frozen BK305.out 0
         have hfz87_1 := blk_frozen BK305.out 1
         obtain ⟨Ao88, co88, eo88⟩ := Kd.R_slice HO_307001.out
         subst eo88
         go_wp2
         refine bodyPost_ret (results_ct rfl _ _ gb305 27 #[.slice Ao56 x307000_1.length co56, .slice Ao88 x307001_2.length co88] (0, 0) _ rfl (by (with_reducible repeat (first | refine blk_drewN ?_ _ | refine blk_drew ?_ | refine blk_alloc ?_ _)); refine blk_put (cs := #[.slice Ao56 x307000_1.length co56, .slice none 0 0]) ?_ 1 _ rfl; (with_reducible repeat (first | refine blk_drewN ?_ _ | refine blk_drew ?_ | refine blk_alloc ?_ _)); refine blk_put (cs := #[.slice none 0 0, .slice none 0 0]) ?_ 0 _ rfl; (with_reducible repeat (first | refine blk_drewN ?_ _ | refine blk_drew ?_ | refine blk_alloc ?_ _)); exact BK305.out) Tryz.underlying27 rfl (by kernel_rfl)) rfl ?_
         exact ⟨_, _, by rfl, by (with_reducible repeat (first | apply Kd.R_alloc | apply Kd.R_drewN | apply Kd.R_drew)); exact Kd.R_mono (Kd.R_far (p := ⟨gb305, 1, none⟩) (Kd.R_far (p := ⟨gb305, 0, none⟩) (Kd.R_types HO_307000.out BK305.out (by decide)) (fun _ hk => hk.2) (.slice Ao56 x307000_1.length co56)) (fun _ hk => hk.2) (.slice Ao88 x307001_2.length co88)) (fun _ hk => trivial), by (with_reducible repeat (first | apply Kd.R_alloc | apply Kd.R_drewN | apply Kd.R_drew)); exact Kd.R_mono (Kd.R_far (p := ⟨gb305, 1, none⟩) (Kd.R_far (p := ⟨gb305, 0, none⟩) (Kd.R_types HO_307001.out BK305.out (by decide)) (fun _ hk => hk.2) (.slice Ao56 x307000_1.length co56)) (fun _ hk => hk.2) (.slice Ao88 x307001_2.length co88)) (fun _ hk => trivial), by repeat (((with_reducible first | exact HB.out | refine below_set ?_ GE305.out)))⟩
def R3_Parse.j0 : Nat → List (S51) → List (S104) → Int → Bool → Option (List ByteArray × (List (S41)) × Int)
 | 0, _, _, _, _ => none
 | k + 1, x4, x9, x10, x43 => if x43 = true then (some (([] : List ByteArray), ([] : List (S41)), 15)) else ((R3_texts.f k x4 x10).bind fun bt339 => ((R3_spaces.f k bt339.1).bind fun t341 => (if t341 = true then (if bt339.2 < (x4.length : Int) then (some (([] : List ByteArray), ([] : List (S41)), 15)) else ((R3_limited.f k x9).bind fun bt342 => (some (bt342.1, bt342.2.1, bt342.2.2)))) else (some (([] : List ByteArray), ([] : List (S41)), 15)))))
def R3_Parse.f (k : Nat) (a0 : ByteArray) : Option (List ByteArray × (List (S41)) × Int) := (R2_Lex.f k a0).bind fun bt327 => (if bt327.2 = 0 then ((R3_texts.f k bt327.1 0).bind fun bt331 => ((R3_spaces.f k bt331.1).bind fun t333 => ((R3_element.f k bt327.1 bt331.2 (-1) ([] : List (S104)) 0).bind fun bt334 => (if t333 = true then (R3_Parse.j0 k bt327.1 bt334.1 bt334.2.1 (!bt334.2.2)) else (R3_Parse.j0 k bt327.1 bt334.1 bt334.2.1 true))))) else (some (([] : List ByteArray), ([] : List (S41)), bt327.2)))
theorem R3_Parse.mono_l : ∀ k, (∀ y0 y1 y2 y3, LeO (R3_Parse.j0 k y0 y1 y2 y3) (R3_Parse.j0 (k + 1) y0 y1 y2 y3))
 | 0 => fun _ _ _ _ r h => by simp [R3_Parse.j0] at h
 | k + 1 => by
  have ih0 := R3_Parse.mono_l k
  ·intro y0 y1 y2 y3
   unfold R3_Parse.j0
   have mo0 := @R2_Lex.mono; have mo1 := @R3_element.mono; have mo2 := @R3_limited.mono; have mo3 := @R3_spaces.mono; have mo4 := @R3_texts.mono; exact leT
theorem R3_Parse.mono : ∀ a0 k, LeO (R3_Parse.f k a0) (R3_Parse.f (k + 1) a0) := by
 intro a0 k
 have ih0 := R3_Parse.mono_l k
 unfold R3_Parse.f
 have mo0 := @R2_Lex.mono; have mo1 := @R3_element.mono; have mo2 := @R3_limited.mono; have mo3 := @R3_spaces.mono; have mo4 := @R3_texts.mono; exact leT
set_option maxHeartbeats 8000000 in
set_option maxRecDepth 100000 in
theorem R3_Parse.calls (k : Nat) (a0 : ByteArray) (r1 : List ByteArray) (r2 : List (S41)) (r3 : Int) (w : World) (h : R3_Parse.f k a0 = some (r1, r2, r3)) :
 Calls Tryz.prog 13 #[.string a0] w fun e w' => ∃ v0_ v1_ : Value, e = .returned (.tuple #[.agg #[v0_, v1_], .int .i64 r3]) ∧ Kd.R Kd.string 9 w' w.heap.size (fun _ => True) v0_ r1 ∧ Kd.R k41 41 w' w.heap.size (fun _ => True) v1_ r2 ∧ Below w.heap.size w w' := by
 have hu27 := Tryz.underlying27
 have HB := Aside0.mk (Below.refl w.heap.size w)
 have H : ((R2_Lex.f k a0).bind fun bt327 => (if bt327.2 = 0 then ((R3_texts.f k bt327.1 0).bind fun bt331 => ((R3_spaces.f k bt331.1).bind fun t333 => ((R3_element.f k bt327.1 bt331.2 (-1) ([] : List (S104)) 0).bind fun bt334 => (if t333 = true then (R3_Parse.j0 k bt327.1 bt334.1 bt334.2.1 (!bt334.2.2)) else (R3_Parse.j0 k bt327.1 bt334.1 bt334.2.1 true))))) else (some (([] : List ByteArray), ([] : List (S41)), bt327.2)))) = some (r1, r2, r3) := h
 clear h
 replace H := Option.bind_eq_some_iff.mp H
 obtain ⟨⟨t327, t328⟩, A20, H⟩ := H
 dsimp only at H
 have A2 := Aside0.mk A20
 clear A20
 by_cases c3 : t328 = 0
 ·rw [if_pos c3] at H
  have c3b0 : (t328 == 0) = true := beq_iff_eq.mpr c3
  have c3b1 : (t328 != 0) = false := bne_eq_false_iff_eq.mpr c3
  clear c3
  replace H := Option.bind_eq_some_iff.mp H
  obtain ⟨⟨t331, t332⟩, A40, H⟩ := H
  dsimp only at H
  have A4 := Aside0.mk A40
  clear A40
  replace H := Option.bind_eq_some_iff.mp H
  obtain ⟨t333, A50, H⟩ := H
  have A5 := Aside0.mk A50
  clear A50
  replace H := Option.bind_eq_some_iff.mp H
  obtain ⟨⟨t334, t337, t338⟩, A60, H⟩ := H
  dsimp only at H
  have A6 := Aside0.mk A60
  clear A60
  have HC7 := Aside0.mk H
  clear H
  go_enter Tryz.func13, Tryz.ntmps13
  go_upto_region 7 with (first | ((with_reducible refine gate_dst (N := 2) rfl ?_); (((refine gate_guard (by rfl) ?_; dsimp only))); refine box_event ?hg (N := 2) ?hd (cs := #[.slice none 0 0, .slice none 0 0]) (t := 27) ?hr ?_; (case hd => rfl); (case hg => rfl); (case hr => ((go_simp; done))); intro gb326 hg w8 hbox hb; have n0_ := Aside0.mk (below_step (zz0) hb); have n1_ := Aside0.mk (hbox); have n2_ := Aside0.mk ((zz18 : w.heap.size ≤ gb326)); have n3_ := Aside0.mk ((zz18 : w.heap.size ≤ gb326)); clear HB; have HB := n0_; have BK326 := n1_; have GW326 := n2_; have GE326 := n3_; clear n0_ n1_ n2_ n3_; clear hb hbox hg) | ((with_reducible refine gate_callee (f := 32) rfl ?_); refine goesL_ (some 17) rfl rfl Tryz.func32 (by kernel_rfl) rfl #[.string a0] rfl (zz1) ?_; (with_reducible refine (R2_Lex.calls k a0 t327 t328 _ A2.out).mono ?_); rintro e w9 ⟨v329, rfl, ho0, hb⟩; refine ⟨_, rfl, ?_⟩; have n0_ := Aside0.mk (Kd.R_lower ho0 (below_size (zz0))); have n1_ := Aside0.mk (blk_below (g := gb326) (o := .cells #[.slice none 0 0, .slice none 0 0] 27 (0, 0)) (zz32) hb); have n2_ := Aside0.mk (below_step (zz0) hb); clear BK326; clear HB; have HO330 := n0_; have BK326 := n1_; have HB := n2_; clear n0_ n1_ n2_; (clear hb); (clear ho0); obtain ⟨Ao10, co10, eo10⟩ := Kd.R_slice HO330.out; subst eo10) | ((with_reducible refine gate_callee (f := 33) rfl ?_); refine goesL_ (some 26) rfl rfl Tryz.func33 (by kernel_rfl) rfl #[.slice Ao10 t327.length co10, .int .i64 0] rfl (zz1) ?_; (with_reducible refine (R3_texts.calls k _ _ t327 0 t331 t332 _ ?side1 ?side2 A4.out).mono ?_); (case side1 => repeat (exact (Kd.R_reads' HO330.out).2.2)); (case side2 => exact (Kd.R_reads' HO330.out).2.1); rintro e w' ⟨rfl, ⟨nd, rfl⟩⟩; refine ⟨_, rfl, ?_⟩) | ((with_reducible refine gate_callee (f := 34) rfl ?_); refine goesL_ (some 30) rfl rfl Tryz.func34 (by kernel_rfl) rfl #[.string t331] rfl (zz1) ?_; (with_reducible refine (R3_spaces.calls k t331 t333 _ A5.out).mono ?_); rintro e w' ⟨rfl, ⟨nd, rfl⟩⟩; refine ⟨_, rfl, ?_⟩) | ((with_reducible refine gate_callee (f := 35) rfl ?_); refine goesL_ (some 34) rfl rfl Tryz.func35 (by kernel_rfl) rfl #[.slice Ao10 t327.length co10, .int .i64 t332, .int .i64 (-1), .slice none 0 0, .int .i64 0] rfl (zz1) ?_; (refine (R3_element.calls k _ _ t327 t332 (-1) (fun k_ => some k_ = (.slice none 0 0 : Value).ownBlock) (.slice none 0 0) ([] : List (S104)) 0 t334 t337 t338 w _ ?side1 ?side2 ?side3 ?side4 A6.out).mono ?_); (case side1 => repeat (((with_reducible first | exact HB.out | apply pw_below_drewN)))); (case side2 => exact Kd.C_kept_own (HO330.out) (fun k_ hk_ hs_ => (fun e_ => by simp [Value.ownBlock] at e_) hs_)); (case side3 => exact (Kd.R_reads' HO330.out).2.1); (case side4 => exact Kd.R_nil _ _ _ _ _); rintro e w11 ⟨v335, rfl, ho0, hb, hkp⟩; refine ⟨_, rfl, ?_⟩; have n0_ := Aside0.mk (blk_kept (zz32) hkp (fun hs_ => (fun e_ => by simp [Value.ownBlock] at e_) hs_)); have n1_ := Aside0.mk (Kd.R_mono (ok' := fun k_ => True) (Kd.R_keptB (HO330.out) hkp (fun k_ hk_ hs_ => (fun e_ => by simp [Value.ownBlock] at e_) hs_)) (fun k_ hk_ => trivial)); have n2_ := Aside0.mk (Kd.R_mono (ok' := fun k_ => True) ho0 (fun k_ hk_ => trivial)); have n3_ := Aside0.mk (hb); clear BK326; clear HO330; clear HB; have BK326 := n0_; have HO330 := n1_; have HO336 := n2_; have HB := n3_; clear n0_ n1_ n2_ n3_; (clear hb); (clear hkp); (clear ho0)))
  go_cut [43] (fun v43 wc => ∃ (kq : Nat) (x43_6 : Bool), v43 = .bool x43_6 ∧ Aside0 (R3_Parse.j0 kq t327 t334 t337 x43_6 = some (r1, r2, r3)) ∧ Aside0 (kq ≤ k) ∧ Aside0 (Kd.R k51 51 wc w.heap.size (fun _ => True) (.slice Ao10 t327.length co10) t327) ∧ Aside0 (Kd.R k104 104 wc w.heap.size (fun _ => True) v335 t334) ∧ Aside0 (wc.heap[gb326]? = some (.cells #[(.slice none 0 0), (.slice none 0 0)] 27 (0, 0))) ∧ Aside0 (Below w.heap.size w wc))
  case first =>
   have H := HC7.out
   clear HC7
   by_cases c12 : t333 = true
   ·subst c12
    rw [if_pos rfl] at H
    have H' := Aside0.mk H
    clear H
    go_wp2
    go_meet
    case rel => exact ⟨_, (!t338), (by rfl), H', ⟨by omega⟩, ⟨by (with_reducible repeat (first | apply Kd.R_alloc | apply Kd.R_drewN | apply Kd.R_drew)); exact HO330.out⟩, ⟨by (with_reducible repeat (first | apply Kd.R_alloc | apply Kd.R_drewN | apply Kd.R_drew)); exact HO336.out⟩, ⟨zz32⟩, ⟨zz0⟩⟩
   ·replace c12 := Bool.eq_false_iff.mpr c12
    subst c12
    rw [if_neg (show ¬ (false = true) by decide)] at H
    have H' := Aside0.mk H
    clear H
    go_wp2
    go_meet
    case rel => exact ⟨_, (true), (by rfl), H', ⟨by omega⟩, ⟨by (with_reducible repeat (first | apply Kd.R_alloc | apply Kd.R_drewN | apply Kd.R_drew)); exact HO330.out⟩, ⟨by (with_reducible repeat (first | apply Kd.R_alloc | apply Kd.R_drewN | apply Kd.R_drew)); exact HO336.out⟩, ⟨zz32⟩, ⟨zz0⟩⟩
  case rest =>
   clear HC7
   clear c3b0
   clear c3b1
   obtain ⟨kq, x43_6, rfl, HA, HJ6, HO_4, HO_9, BK326, HB⟩ := hcut
   cases kq with
   | zero => exact absurd HA.out (by simp [R3_Parse.j0])
   | succ kj6 =>
    have H := HA.out
    clear HA
    simp only [R3_Parse.j0] at H
    by_cases c13 : x43_6 = true
    ·subst c13
     rw [if_pos rfl] at H
     simp only [Option.some.injEq, Prod.mk.injEq] at H
     obtain ⟨rfl, rfl, rfl⟩ := H
     have hcz14_0 : wc.cell? ⟨gb326, 0, none⟩ = some (.slice none 0 0) := (blk_cell BK326.out 0).trans rfl
     have hcz14_1 : wc.cell? ⟨gb326, 1, none⟩ = some (.slice none 0 0) := (blk_cell BK326.out 1).trans rfl
     have hfz14_0 := blk_frozen BK326.out 0
     have hfz14_1 := blk_frozen BK326.out 1
     go_wp2
     refine bodyPost_ret (results_ct rfl _ _ gb326 27 #[.slice none 0 0, .slice none 0 0] (0, 0) _ rfl (zz11) Tryz.underlying27 rfl (by kernel_rfl)) rfl ?_
     exact zz50
    ·replace c13 := Bool.eq_false_iff.mpr c13
     subst c13
     rw [if_neg (show ¬ (false = true) by decide)] at H
     replace H := Option.bind_eq_some_iff.mp H
     obtain ⟨⟨t339, t340⟩, A150, H⟩ := H
     dsimp only at H
     have A15 := Aside0.mk A150
     clear A150
     replace H := Option.bind_eq_some_iff.mp H
     obtain ⟨t341, A160, H⟩ := H
     have A16 := Aside0.mk A160
     clear A160
     by_cases c17 : t341 = true
     ·subst c17
      rw [if_pos rfl] at H
      by_cases c18 : t340 < (t327.length : Int)
      ·rw [if_pos c18] at H
       have c18b0 : decide (t340 < (t327.length : Int)) = true := decide_eq_true c18
       clear c18
       simp only [Option.some.injEq, Prod.mk.injEq] at H
       obtain ⟨rfl, rfl, rfl⟩ := H
       go_wp2_with (first | ((with_reducible refine gate_callee (f := 33) rfl ?_); refine goesL_ (some 48) rfl rfl Tryz.func33 (by kernel_rfl) rfl #[.slice Ao10 t327.length co10, .int .i64 t337] rfl (zz1) ?_; (with_reducible refine (R3_texts.calls kj6 _ _ t327 t337 t339 t340 _ ?side1 ?side2 A15.out).mono ?_); (case side1 => repeat (exact (Kd.R_reads' HO_4.out).2.2)); (case side2 => exact (Kd.R_reads' HO_4.out).2.1); rintro e w' ⟨rfl, ⟨nd, rfl⟩⟩; refine ⟨_, rfl, ?_⟩; (((rw [drewN_self wc]; generalize hq_ : World.drewN wc _ = wc; have n0_ : Aside0 (Kd.R k51 51 wc w.heap.size (fun _ => True) (.slice Ao10 t327.length co10) t327) := ⟨zz40⟩; have n1_ : Aside0 (Kd.R k104 104 wc w.heap.size (fun _ => True) v335 t334) := ⟨zz48⟩; have n2_ : Aside0 (wc.heap[gb326]? = some (.cells #[.slice none 0 0, .slice none 0 0] 27 (0, 0))) := ⟨zz46⟩; have n3_ : Aside0 (Below w.heap.size w wc) := ⟨zz45⟩; clear HO_4 HO_9 BK326 HB hq_; have HO_4 := n0_; have HO_9 := n1_; have BK326 := n2_; have HB := n3_; clear n0_ n1_ n2_ n3_)))) | ((with_reducible refine gate_callee (f := 34) rfl ?_); refine goesL_ (some 52) rfl rfl Tryz.func34 (by kernel_rfl) rfl #[.string t339] rfl (zz1) ?_; (with_reducible refine (R3_spaces.calls kj6 t339 true _ A16.out).mono ?_); rintro e w' ⟨rfl, ⟨nd, rfl⟩⟩; refine ⟨_, rfl, ?_⟩; (((rw [drewN_self wc]; generalize hq_ : World.drewN wc _ = wc; have n0_ : Aside0 (Kd.R k51 51 wc w.heap.size (fun _ => True) (.slice Ao10 t327.length co10) t327) := ⟨zz40⟩; have n1_ : Aside0 (Kd.R k104 104 wc w.heap.size (fun _ => True) v335 t334) := ⟨zz48⟩; have n2_ : Aside0 (wc.heap[gb326]? = some (.cells #[.slice none 0 0, .slice none 0 0] 27 (0, 0))) := ⟨zz46⟩; have n3_ : Aside0 (Below w.heap.size w wc) := ⟨zz45⟩; clear HO_4 HO_9 BK326 HB hq_; have HO_4 := n0_; have HO_9 := n1_; have BK326 := n2_; have HB := n3_; clear n0_ n1_ n2_ n3_))); have hcz19_0 : wc.cell? ⟨gb326, 0, none⟩ = some (.slice none 0 0) := (blk_cell BK326.out 0).trans rfl; have hcz19_1 : wc.cell? ⟨gb326, 1, none⟩ = some (.slice none 0 0) := (blk_cell BK326.out 1).trans rfl; have hfz19_0 := blk_frozen BK326.out 0; have hfz19_1 := blk_frozen BK326.out 1))
       refine bodyPost_ret (results_ct rfl _ _ gb326 27 #[.slice none 0 0, .slice none 0 0] (0, 0) _ rfl (zz11) Tryz.underlying27 rfl (by kernel_rfl)) rfl ?_
       exact zz50
      ·rw [if_neg c18] at H
       have c18b0 : decide (t340 < (t327.length : Int)) = false := decide_eq_false c18
       clear c18
       replace H := Option.bind_eq_some_iff.mp H
       obtain ⟨⟨t342, t345, t348⟩, A200, H⟩ := H
       dsimp only at H
       have A20 := Aside0.mk A200
       clear A200
       simp only [Option.some.injEq, Prod.mk.injEq] at H
       obtain ⟨rfl, rfl, rfl⟩ := H
       go_wp2_with (first | ((with_reducible refine gate_callee (f := 33) rfl ?_); refine goesL_ (some 48) rfl rfl Tryz.func33 (by kernel_rfl) rfl #[.slice Ao10 t327.length co10, .int .i64 t337] rfl (zz1) ?_; (with_reducible refine (R3_texts.calls kj6 _ _ t327 t337 t339 t340 _ ?side1 ?side2 A15.out).mono ?_); (case side1 => repeat (exact (Kd.R_reads' HO_4.out).2.2)); (case side2 => exact (Kd.R_reads' HO_4.out).2.1); rintro e w' ⟨rfl, ⟨nd, rfl⟩⟩; refine ⟨_, rfl, ?_⟩; (((rw [drewN_self wc]; generalize hq_ : World.drewN wc _ = wc; have n0_ : Aside0 (Kd.R k51 51 wc w.heap.size (fun _ => True) (.slice Ao10 t327.length co10) t327) := ⟨zz40⟩; have n1_ : Aside0 (Kd.R k104 104 wc w.heap.size (fun _ => True) v335 t334) := ⟨zz48⟩; have n2_ : Aside0 (wc.heap[gb326]? = some (.cells #[.slice none 0 0, .slice none 0 0] 27 (0, 0))) := ⟨zz46⟩; have n3_ : Aside0 (Below w.heap.size w wc) := ⟨zz45⟩; clear HO_4 HO_9 BK326 HB hq_; have HO_4 := n0_; have HO_9 := n1_; have BK326 := n2_; have HB := n3_; clear n0_ n1_ n2_ n3_)))) | ((with_reducible refine gate_callee (f := 34) rfl ?_); refine goesL_ (some 52) rfl rfl Tryz.func34 (by kernel_rfl) rfl #[.string t339] rfl (zz1) ?_; (with_reducible refine (R3_spaces.calls kj6 t339 true _ A16.out).mono ?_); rintro e w' ⟨rfl, ⟨nd, rfl⟩⟩; refine ⟨_, rfl, ?_⟩; (((rw [drewN_self wc]; generalize hq_ : World.drewN wc _ = wc; have n0_ : Aside0 (Kd.R k51 51 wc w.heap.size (fun _ => True) (.slice Ao10 t327.length co10) t327) := ⟨zz40⟩; have n1_ : Aside0 (Kd.R k104 104 wc w.heap.size (fun _ => True) v335 t334) := ⟨zz48⟩; have n2_ : Aside0 (wc.heap[gb326]? = some (.cells #[.slice none 0 0, .slice none 0 0] 27 (0, 0))) := ⟨zz46⟩; have n3_ : Aside0 (Below w.heap.size w wc) := ⟨zz45⟩; clear HO_4 HO_9 BK326 HB hq_; have HO_4 := n0_; have HO_9 := n1_; have BK326 := n2_; have HB := n3_; clear n0_ n1_ n2_ n3_))); obtain ⟨Ao21, co21, eo21⟩ := Kd.R_slice HO_9.out; subst eo21) | ((with_reducible refine gate_callee (f := 36) rfl ?_); refine goesL_ (some 63) rfl rfl Tryz.func36 (by kernel_rfl) rfl #[.slice Ao21 t334.length co21] rfl (zz1) ?_; (with_reducible refine (R3_limited.calls kj6 _ _ t334 t342 t345 t348 _ ?side1 ?side2 A20.out).mono ?_); (case side1 => repeat (exact (Kd.R_reads' HO_9.out).2.2)); (case side2 => exact (Kd.R_reads' HO_9.out).2.1); rintro e w22 ⟨v343, v346, rfl, ho0, ho1, hb⟩; refine ⟨_, rfl, ?_⟩; have n0_ := Aside0.mk (Kd.R_below (by (with_reducible repeat (first | apply Kd.R_alloc | apply Kd.R_drewN | apply Kd.R_drew)); exact HO_4.out) hb); have n1_ := Aside0.mk (Kd.R_below (by (with_reducible repeat (first | apply Kd.R_alloc | apply Kd.R_drewN | apply Kd.R_drew)); exact HO_9.out) hb); have n2_ := Aside0.mk (Kd.R_lower ho0 (below_size (zz0))); have n3_ := Aside0.mk (Kd.R_lower ho1 (below_size (zz0))); have n4_ := Aside0.mk (blk_below (g := gb326) (o := .cells #[.slice none 0 0, .slice none 0 0] 27 (0, 0)) (zz32) hb); have n5_ := Aside0.mk (below_step (zz0) hb); clear HO_4; clear HO_9; clear BK326; clear HB; have HO_4 := n0_; have HO_9 := n1_; have HO344 := n2_; have HO347 := n3_; have BK326 := n4_; have HB := n5_; clear n0_ n1_ n2_ n3_ n4_ n5_; (clear hb); (clear ho0); (clear ho1); obtain ⟨Ao23, co23, eo23⟩ := Kd.R_slice HO344.out; subst eo23; have hcz24_0 : w22.cell? ⟨gb326, 0, none⟩ = some (.slice none 0 0) := (blk_cell BK326.out 0).trans rfl; have hcz24_1 : w22.cell? ⟨gb326, 1, none⟩ = some (.slice none 0 0) := (blk_cell BK326.out 1).trans rfl; have hfz24_0 := blk_frozen BK326.out 0; have hfz24_1 := blk_frozen BK326.out 1; obtain ⟨Ao25, co25, eo25⟩ := Kd.R_slice HO347.out; subst eo25))
       refine bodyPost_ret (results_ct rfl _ _ gb326 27 #[.slice Ao23 t342.length co23, .slice Ao25 t345.length co25] (0, 0) _ rfl (by (with_reducible repeat (first | refine blk_drewN ?_ _ | refine blk_drew ?_ | refine blk_alloc ?_ _)); refine blk_put (cs := #[.slice Ao23 t342.length co23, .slice none 0 0]) ?_ 1 _ rfl; (with_reducible repeat (first | refine blk_drewN ?_ _ | refine blk_drew ?_ | refine blk_alloc ?_ _)); refine blk_put (cs := #[.slice none 0 0, .slice none 0 0]) ?_ 0 _ rfl; (with_reducible repeat (first | refine blk_drewN ?_ _ | refine blk_drew ?_ | refine blk_alloc ?_ _)); exact BK326.out) Tryz.underlying27 rfl (by kernel_rfl)) rfl ?_
       exact ⟨_, _, by rfl, by (with_reducible repeat (first | apply Kd.R_alloc | apply Kd.R_drewN | apply Kd.R_drew)); exact Kd.R_mono (Kd.R_far (p := ⟨gb326, 1, none⟩) (Kd.R_far (p := ⟨gb326, 0, none⟩) (Kd.R_types HO344.out BK326.out (by decide)) (fun _ hk => hk.2) (.slice Ao23 t342.length co23)) (fun _ hk => hk.2) (.slice Ao25 t345.length co25)) (fun _ hk => trivial), by (with_reducible repeat (first | apply Kd.R_alloc | apply Kd.R_drewN | apply Kd.R_drew)); exact Kd.R_mono (Kd.R_far (p := ⟨gb326, 1, none⟩) (Kd.R_far (p := ⟨gb326, 0, none⟩) (Kd.R_types HO347.out BK326.out (by decide)) (fun _ hk => hk.2) (.slice Ao23 t342.length co23)) (fun _ hk => hk.2) (.slice Ao25 t345.length co25)) (fun _ hk => trivial), by repeat (((with_reducible first | exact HB.out | refine below_set ?_ GE326.out)))⟩
     ·replace c17 := Bool.eq_false_iff.mpr c17
      subst c17
      rw [if_neg (show ¬ (false = true) by decide)] at H
      simp only [Option.some.injEq, Prod.mk.injEq] at H
      obtain ⟨rfl, rfl, rfl⟩ := H
      go_wp2_with (first | ((with_reducible refine gate_callee (f := 33) rfl ?_); refine goesL_ (some 48) rfl rfl Tryz.func33 (by kernel_rfl) rfl #[.slice Ao10 t327.length co10, .int .i64 t337] rfl (zz1) ?_; (with_reducible refine (R3_texts.calls kj6 _ _ t327 t337 t339 t340 _ ?side1 ?side2 A15.out).mono ?_); (case side1 => repeat (exact (Kd.R_reads' HO_4.out).2.2)); (case side2 => exact (Kd.R_reads' HO_4.out).2.1); rintro e w' ⟨rfl, ⟨nd, rfl⟩⟩; refine ⟨_, rfl, ?_⟩; (((rw [drewN_self wc]; generalize hq_ : World.drewN wc _ = wc; have n0_ : Aside0 (Kd.R k51 51 wc w.heap.size (fun _ => True) (.slice Ao10 t327.length co10) t327) := ⟨zz40⟩; have n1_ : Aside0 (Kd.R k104 104 wc w.heap.size (fun _ => True) v335 t334) := ⟨zz48⟩; have n2_ : Aside0 (wc.heap[gb326]? = some (.cells #[.slice none 0 0, .slice none 0 0] 27 (0, 0))) := ⟨zz46⟩; have n3_ : Aside0 (Below w.heap.size w wc) := ⟨zz45⟩; clear HO_4 HO_9 BK326 HB hq_; have HO_4 := n0_; have HO_9 := n1_; have BK326 := n2_; have HB := n3_; clear n0_ n1_ n2_ n3_)))) | ((with_reducible refine gate_callee (f := 34) rfl ?_); refine goesL_ (some 52) rfl rfl Tryz.func34 (by kernel_rfl) rfl #[.string t339] rfl (zz1) ?_; (with_reducible refine (R3_spaces.calls kj6 t339 false _ A16.out).mono ?_); rintro e w' ⟨rfl, ⟨nd, rfl⟩⟩; refine ⟨_, rfl, ?_⟩; (((rw [drewN_self wc]; generalize hq_ : World.drewN wc _ = wc; have n0_ : Aside0 (Kd.R k51 51 wc w.heap.size (fun _ => True) (.slice Ao10 t327.length co10) t327) := ⟨zz40⟩; have n1_ : Aside0 (Kd.R k104 104 wc w.heap.size (fun _ => True) v335 t334) := ⟨zz48⟩; have n2_ : Aside0 (wc.heap[gb326]? = some (.cells #[.slice none 0 0, .slice none 0 0] 27 (0, 0))) := ⟨zz46⟩; have n3_ : Aside0 (Below w.heap.size w wc) := ⟨zz45⟩; clear HO_4 HO_9 BK326 HB hq_; have HO_4 := n0_; have HO_9 := n1_; have BK326 := n2_; have HB := n3_; clear n0_ n1_ n2_ n3_))); have hcz26_0 : wc.cell? ⟨gb326, 0, none⟩ = some (.slice none 0 0) := (blk_cell BK326.out 0).trans rfl; have hcz26_1 : wc.cell? ⟨gb326, 1, none⟩ = some (.slice none 0 0) := (blk_cell BK326.out 1).trans rfl; have hfz26_0 := blk_frozen BK326.out 0; have hfz26_1 := blk_frozen BK326.out 1))
      refine bodyPost_ret (results_ct rfl _ _ gb326 27 #[.slice none 0 0, .slice none 0 0] (0, 0) _ rfl (zz11) Tryz.underlying27 rfl (by kernel_rfl)) rfl ?_
      exact zz50
 ·rw [if_neg c3] at H
  have c3b0 : (t328 == 0) = false := beq_eq_false_iff_ne.mpr c3
  have c3b1 : (t328 != 0) = true := bne_iff_ne.mpr c3
  simp only [Option.some.injEq, Prod.mk.injEq] at H
  obtain ⟨rfl, rfl, rfl⟩ := H
  go_enter Tryz.func13, Tryz.ntmps13
  go_wp2_with (first | ((with_reducible refine gate_dst (N := 2) rfl ?_); (((refine gate_guard (by rfl) ?_; dsimp only))); refine box_event ?hg (N := 2) ?hd (cs := #[.slice none 0 0, .slice none 0 0]) (t := 27) ?hr ?_; (case hd => rfl); (case hg => rfl); (case hr => ((go_simp; done))); intro gb326 hg w27 hbox hb; have n0_ := Aside0.mk (below_step (zz0) hb); have n1_ := Aside0.mk (hbox); have n2_ := Aside0.mk ((zz18 : w.heap.size ≤ gb326)); have n3_ := Aside0.mk ((zz18 : w.heap.size ≤ gb326)); clear HB; have HB := n0_; have BK326 := n1_; have GW326 := n2_; have GE326 := n3_; clear n0_ n1_ n2_ n3_; clear hb hbox hg) | ((with_reducible refine gate_callee (f := 32) rfl ?_); refine goesL_ (some 17) rfl rfl Tryz.func32 (by kernel_rfl) rfl #[.string a0] rfl (zz1) ?_; (with_reducible refine (R2_Lex.calls k a0 t327 t328 _ A2.out).mono ?_); rintro e w28 ⟨v329, rfl, ho0, hb⟩; refine ⟨_, rfl, ?_⟩; have n0_ := Aside0.mk (Kd.R_lower ho0 (below_size (zz0))); have n1_ := Aside0.mk (blk_below (g := gb326) (o := .cells #[.slice none 0 0, .slice none 0 0] 27 (0, 0)) (zz32) hb); have n2_ := Aside0.mk (below_step (zz0) hb); clear BK326; clear HB; have HO330 := n0_; have BK326 := n1_; have HB := n2_; clear n0_ n1_ n2_; (clear hb); (clear ho0); have hcz29_0 : w28.cell? ⟨gb326, 0, none⟩ = some (.slice none 0 0) := (blk_cell BK326.out 0).trans rfl; have hcz29_1 : w28.cell? ⟨gb326, 1, none⟩ = some (.slice none 0 0) := (blk_cell BK326.out 1).trans rfl; have hfz29_0 := blk_frozen BK326.out 0; have hfz29_1 := blk_frozen BK326.out 1))
  refine bodyPost_ret (results_ct rfl _ _ gb326 27 #[.slice none 0 0, .slice none 0 0] (0, 0) _ rfl (zz11) Tryz.underlying27 rfl (by kernel_rfl)) rfl ?_
  exact zz50
mutual
def R3_Same.j0 : Nat → Bool → List ByteArray → List (S41) → List ByteArray → List (S41) → Option (Bool)
 | 0, _, _, _, _, _ => none
 | k + 1, x22, x350000, x350001, x351000, x351001 => if x22 = true then (some false) else (R3_Same.l0 k 0 x350000 x350001 x351000 x351001)
def R3_Same.l0 : Nat → Int → List ByteArray → List (S41) → List ByteArray → List (S41) → Option (Bool)
 | 0, _, _, _, _, _ => none
 | k + 1, x5, x350000, x350001, x351000, x351001 => if x5 < (x350000.length : Int) then (if 0 ≤ x5 then (if x5 < (x351000.length : Int) then (if (rdOf ByteArray.empty x350000 x5).toList = (rdOf ByteArray.empty x351000 x5).toList then (R3_Same.l0 k (wrap64 (x5 + 1)) x350000 x350001 x351000 x351001) else (some false)) else (none)) else (none)) else (R3_Same.l1 k 0 x350000 x350001 x351000 x351001)
def R3_Same.l1 : Nat → Int → List ByteArray → List (S41) → List ByteArray → List (S41) → Option (Bool)
 | 0, _, _, _, _, _ => none
 | k + 1, x6, x350000, x350001, x351000, x351001 => if x6 < (x350001.length : Int) then (if 0 ≤ x6 then (if x6 < (x351001.length : Int) then (if (!(((rd_T41 x350001 x6).f0) == ((rd_T41 x351001 x6).f0)) || (!(((rd_T41 x350001 x6).f1) == ((rd_T41 x351001 x6).f1)) || (!(((rd_T41 x350001 x6).f2) == ((rd_T41 x351001 x6).f2)) || (!((((rd_T41 x350001 x6).f3).toList) == (((rd_T41 x351001 x6).f3).toList)))))) = true then (some false) else (R3_Same.l1 k (wrap64 (x6 + 1)) x350000 x350001 x351000 x351001)) else (none)) else (none)) else (some true)
end
def R3_Same.f (k : Nat) (l0_0 : List ByteArray) (l0_1 : List (S41)) (l1_0 : List ByteArray) (l1_1 : List (S41)) : Option (Bool) := if (l0_0.length : Int) = (l1_0.length : Int) then (R3_Same.j0 k ((l0_1.length : Int) != (l1_1.length : Int)) l0_0 l0_1 l1_0 l1_1) else (R3_Same.j0 k true l0_0 l0_1 l1_0 l1_1)
theorem R3_Same.mono_l : ∀ k, (∀ y0 y1 y2 y3 y4, LeO (R3_Same.j0 k y0 y1 y2 y3 y4) (R3_Same.j0 (k + 1) y0 y1 y2 y3 y4)) ∧ (∀ y0 y1 y2 y3 y4, LeO (R3_Same.l0 k y0 y1 y2 y3 y4) (R3_Same.l0 (k + 1) y0 y1 y2 y3 y4)) ∧ (∀ y0 y1 y2 y3 y4, LeO (R3_Same.l1 k y0 y1 y2 y3 y4) (R3_Same.l1 (k + 1) y0 y1 y2 y3 y4))
 | 0 => ⟨fun _ _ _ _ _ r h => by simp [R3_Same.j0] at h, fun _ _ _ _ _ r h => by simp [R3_Same.l0] at h, fun _ _ _ _ _ r h => by simp [R3_Same.l1] at h⟩
 | k + 1 => by
  obtain ⟨ih0, ih1, ih2⟩ := R3_Same.mono_l k
  refine ⟨?_, ?_, ?_⟩
  ·intro y0 y1 y2 y3 y4
   unfold R3_Same.j0
   exact leT
  ·intro y0 y1 y2 y3 y4
   unfold R3_Same.l0
   exact leT
  ·intro y0 y1 y2 y3 y4
   unfold R3_Same.l1
   exact leT
theorem R3_Same.mono : ∀ a0 a1 a2 a3 k, LeO (R3_Same.f k a0 a1 a2 a3) (R3_Same.f (k + 1) a0 a1 a2 a3) := by
 intro a0 a1 a2 a3 k
 obtain ⟨ih0, ih1, ih2⟩ := R3_Same.mono_l k
 unfold R3_Same.f
 exact leT
set_option maxHeartbeats 8000000 in
set_option maxRecDepth 100000 in
theorem R3_Same.calls (k : Nat) (A0_0 : Option Addr) (c0_0 : Nat) (l0_0 : List ByteArray) (A0_1 : Option Addr) (c0_1 : Nat) (l0_1 : List (S41)) (A1_0 : Option Addr) (c1_0 : Nat) (l1_0 : List ByteArray) (A1_1 : Option Addr) (c1_1 : Nat) (l1_1 : List (S41)) (r : Bool) (w : World) (hr0_0 : Kd.C Kd.string w A0_0 l0_0.length l0_0) (hc0_0 : l0_0.length ≤ c0_0) (hr0_1 : Kd.C k41 w A0_1 l0_1.length l0_1) (hc0_1 : l0_1.length ≤ c0_1) (hr1_0 : Kd.C Kd.string w A1_0 l1_0.length l1_0) (hc1_0 : l1_0.length ≤ c1_0) (hr1_1 : Kd.C k41 w A1_1 l1_1.length l1_1) (hc1_1 : l1_1.length ≤ c1_1) (h : R3_Same.f k l0_0 l0_1 l1_0 l1_1 = some r) :
 Calls Tryz.prog 14 #[.agg #[.slice A0_0 l0_0.length c0_0, .slice A0_1 l0_1.length c0_1], .agg #[.slice A1_0 l1_0.length c1_0, .slice A1_1 l1_1.length c1_1]] w fun e w' => e = .returned (.bool r) ∧ Below w.heap.size w w' := by
 have hu27 := Tryz.underlying27
 have hu41 := Tryz.underlying41
 have HR0_0 := Aside0.mk hr0_0
 have HC0_0 := Aside0.mk hc0_0
 clear hr0_0 hc0_0
 have HR0_1 := Aside0.mk hr0_1
 have HC0_1 := Aside0.mk hc0_1
 clear hr0_1 hc0_1
 have HR1_0 := Aside0.mk hr1_0
 have HC1_0 := Aside0.mk hc1_0
 clear hr1_0 hc1_0
 have HR1_1 := Aside0.mk hr1_1
 have HC1_1 := Aside0.mk hc1_1
 clear hr1_1 hc1_1
 have HB := Aside0.mk (Below.refl w.heap.size w)
 have H : (if (l0_0.length : Int) = (l1_0.length : Int) then (R3_Same.j0 k ((l0_1.length : Int) != (l1_1.length : Int)) l0_0 l0_1 l1_0 l1_1) else (R3_Same.j0 k true l0_0 l0_1 l1_0 l1_1)) = some r := h
 clear h
 have HC3 := Aside0.mk H
 clear H
 go_enter Tryz.func14, Tryz.ntmps14
 go_upto_region 1 with (first | ((with_reducible refine gate_dst (N := 2) rfl ?_); (((refine gate_guard (by rfl) ?_; dsimp only))); refine box_event ?hg (N := 2) ?hd (cs := #[.slice A0_0 l0_0.length c0_0, .slice A0_1 l0_1.length c0_1]) (t := 27) ?hr ?_; (case hd => rfl); (case hg => rfl); (case hr => ((go_simp; done))); intro gb349 hg w4 hbox hb; have n0_ := Aside0.mk (below_step (zz0) hb); have n1_ := Aside0.mk (hbox); have n2_ := Aside0.mk ((zz18 : w.heap.size ≤ gb349)); have n3_ := Aside0.mk ((zz18 : w.heap.size ≤ gb349)); clear HB; have HB := n0_; have BK349 := n1_; have GW349 := n2_; have GE349 := n3_; clear n0_ n1_ n2_ n3_; clear hb hbox hg) | ((with_reducible refine gate_dst (N := 3) rfl ?_); (((refine gate_guard (by rfl) ?_; dsimp only))); refine box_event ?hg (N := 3) ?hd (cs := #[.slice A1_0 l1_0.length c1_0, .slice A1_1 l1_1.length c1_1]) (t := 27) ?hr ?_; (case hd => rfl); (case hg => rfl); (case hr => ((go_simp; done))); intro gb350 hg w5 hbox hb; have n0_ := Aside0.mk (blk_below (g := gb349) (o := .cells #[.slice A0_0 l0_0.length c0_0, .slice A0_1 l0_1.length c0_1] 27 (0, 0)) (zz12) hb); have n1_ := Aside0.mk (below_step (zz0) hb); have n2_ := Aside0.mk (hbox); have n3_ := Aside0.mk ((zz18 : w.heap.size ≤ gb350)); have n4_ := Aside0.mk ((zz18 : w.heap.size ≤ gb350)); have n5_ := Aside0.mk ((zz67 : gb349 ≠ gb350)); have n6_ := Aside0.mk ((zz68 : gb350 ≠ gb349)); clear BK349; clear HB; have BK349 := n0_; have HB := n1_; have BK350 := n2_; have GW350 := n3_; have GE350 := n4_; have NB349_350 := n5_; have NB350_349 := n6_; clear n0_ n1_ n2_ n3_ n4_ n5_ n6_; clear hb hbox hg))
 repeat (go_quiet (first | ((with_reducible refine gate_dst (N := 2) rfl ?_); (try (refine gate_guard (by rfl) ?_; dsimp only)); refine box_event ?hg (N := 2) ?hd (cs := #[.slice A0_0 l0_0.length c0_0, .slice A0_1 l0_1.length c0_1]) (t := 27) ?hr ?_; (case hd => rfl); (case hg => rfl); (case hr => first | (go_simp; done) | (go_simp; rfl)); intro gb349 hg w4 hbox hb; have n0_ := Aside0.mk (below_step (zz2) hb); have n1_ := Aside0.mk (hbox); have n2_ := Aside0.mk ((zz69 : w.heap.size ≤ gb349)); have n3_ := Aside0.mk ((zz69 : w.heap.size ≤ gb349)); clear HB; have HB := n0_; have BK349 := n1_; have GW349 := n2_; have GE349 := n3_; clear n0_ n1_ n2_ n3_; clear hb hbox hg) | ((with_reducible refine gate_dst (N := 3) rfl ?_); (try (refine gate_guard (by rfl) ?_; dsimp only)); refine box_event ?hg (N := 3) ?hd (cs := #[.slice A1_0 l1_0.length c1_0, .slice A1_1 l1_1.length c1_1]) (t := 27) ?hr ?_; (case hd => rfl); (case hg => rfl); (case hr => first | (go_simp; done) | (go_simp; rfl)); intro gb350 hg w5 hbox hb; have n0_ := Aside0.mk (blk_below (g := gb349) (o := .cells #[.slice A0_0 l0_0.length c0_0, .slice A0_1 l0_1.length c0_1] 27 (0, 0)) (zz12) hb); have n1_ := Aside0.mk (below_step (by repeat (first | (with_reducible first | exact HB.out | apply below_alloc | apply pw_below_drewN | apply below_drew1 | refine below_set ?_ GE349.out) | exact HB.out)) hb); have n2_ := Aside0.mk (hbox); have n3_ := Aside0.mk ((by rw [hg]; exact (below_size (by repeat (first | (with_reducible first | exact HB.out | apply below_alloc | apply pw_below_drewN | apply below_drew1 | refine below_set ?_ GE349.out) | exact HB.out))) : w.heap.size ≤ gb350)); have n4_ := Aside0.mk ((by rw [hg]; exact (below_size (by repeat (first | (with_reducible first | exact HB.out | apply below_alloc | apply pw_below_drewN | apply below_drew1 | refine below_set ?_ GE349.out) | exact HB.out))) : w.heap.size ≤ gb350)); have n5_ := Aside0.mk ((zz67 : gb349 ≠ gb350)); have n6_ := Aside0.mk ((zz68 : gb350 ≠ gb349)); clear BK349; clear HB; have BK349 := n0_; have HB := n1_; have BK350 := n2_; have GW350 := n3_; have GE350 := n4_; have NB349_350 := n5_; have NB350_349 := n6_; clear n0_ n1_ n2_ n3_ n4_ n5_ n6_; clear hb hbox hg)); go_upto_region 1 with (first | ((with_reducible refine gate_dst (N := 2) rfl ?_); (try (refine gate_guard (by rfl) ?_; dsimp only)); refine box_event ?hg (N := 2) ?hd (cs := #[.slice A0_0 l0_0.length c0_0, .slice A0_1 l0_1.length c0_1]) (t := 27) ?hr ?_; (case hd => rfl); (case hg => rfl); (case hr => first | (go_simp; done) | (go_simp; rfl)); intro gb349 hg w4 hbox hb; have n0_ := Aside0.mk (below_step (zz2) hb); have n1_ := Aside0.mk (hbox); have n2_ := Aside0.mk ((zz69 : w.heap.size ≤ gb349)); have n3_ := Aside0.mk ((zz69 : w.heap.size ≤ gb349)); clear HB; have HB := n0_; have BK349 := n1_; have GW349 := n2_; have GE349 := n3_; clear n0_ n1_ n2_ n3_; clear hb hbox hg) | ((with_reducible refine gate_dst (N := 3) rfl ?_); (try (refine gate_guard (by rfl) ?_; dsimp only)); refine box_event ?hg (N := 3) ?hd (cs := #[.slice A1_0 l1_0.length c1_0, .slice A1_1 l1_1.length c1_1]) (t := 27) ?hr ?_; (case hd => rfl); (case hg => rfl); (case hr => first | (go_simp; done) | (go_simp; rfl)); intro gb350 hg w5 hbox hb; have n0_ := Aside0.mk (blk_below (g := gb349) (o := .cells #[.slice A0_0 l0_0.length c0_0, .slice A0_1 l0_1.length c0_1] 27 (0, 0)) (zz12) hb); have n1_ := Aside0.mk (below_step (by repeat (first | (with_reducible first | exact HB.out | apply below_alloc | apply pw_below_drewN | apply below_drew1 | refine below_set ?_ GE349.out) | exact HB.out)) hb); have n2_ := Aside0.mk (hbox); have n3_ := Aside0.mk ((by rw [hg]; exact (below_size (by repeat (first | (with_reducible first | exact HB.out | apply below_alloc | apply pw_below_drewN | apply below_drew1 | refine below_set ?_ GE349.out) | exact HB.out))) : w.heap.size ≤ gb350)); have n4_ := Aside0.mk ((by rw [hg]; exact (below_size (by repeat (first | (with_reducible first | exact HB.out | apply below_alloc | apply pw_below_drewN | apply below_drew1 | refine below_set ?_ GE349.out) | exact HB.out))) : w.heap.size ≤ gb350)); have n5_ := Aside0.mk ((zz67 : gb349 ≠ gb350)); have n6_ := Aside0.mk ((zz68 : gb350 ≠ gb349)); clear BK349; clear HB; have BK349 := n0_; have HB := n1_; have BK350 := n2_; have GW350 := n3_; have GE350 := n4_; have NB349_350 := n5_; have NB350_349 := n6_; clear n0_ n1_ n2_ n3_ n4_ n5_ n6_; clear hb hbox hg)))
 go_cut [22] (fun v22 wc => ∃ (kq : Nat) (x22_2 : Bool), v22 = .bool x22_2 ∧ Aside0 (R3_Same.j0 kq x22_2 l0_0 l0_1 l1_0 l1_1 = some r) ∧ Aside0 (kq ≤ k) ∧ Aside0 (wc.heap[gb349]? = some (.cells #[(.slice A0_0 l0_0.length c0_0), (.slice A0_1 l0_1.length c0_1)] 27 (0, 0))) ∧ Aside0 (wc.heap[gb350]? = some (.cells #[(.slice A1_0 l1_0.length c1_0), (.slice A1_1 l1_1.length c1_1)] 27 (0, 0))) ∧ Aside0 (Below w.heap.size w wc))
 case first =>
  have H := HC3.out
  clear HC3
  by_cases c6 : (l0_0.length : Int) = (l1_0.length : Int)
  rw [if_pos c6] at H
  have c6b0 : ((l0_0.length : Int) == (l1_0.length : Int)) = true := beq_iff_eq.mpr c6
  have c6b1 : ((l0_0.length : Int) != (l1_0.length : Int)) = false := bne_eq_false_iff_eq.mpr c6
  have c6b2 : (l0_0.length == l1_0.length) = true := by ((simp at c6 ⊢; omega))
  clear c6
  rotate_left
  rw [if_neg c6] at H
  have c6b0 : ((l0_0.length : Int) == (l1_0.length : Int)) = false := beq_eq_false_iff_ne.mpr c6
  have c6b1 : ((l0_0.length : Int) != (l1_0.length : Int)) = true := bne_iff_ne.mpr c6
  have c6b2 : (l0_0.length == l1_0.length) = false := by ((simp at c6 ⊢; omega))
  rotate_left
  all_goals
   have H' := Aside0.mk H
   clear H
   have hnbz1 := NB349_350.out
   have hncz1 := NB350_349.out
   have hczz1 : w5.cell? ⟨gb349, 0, none⟩ = some (.slice A0_0 l0_0.length c0_0) := (blk_cell BK349.out 0).trans rfl
   have hczz2 : w5.cell? ⟨gb349, 1, none⟩ = some (.slice A0_1 l0_1.length c0_1) := (blk_cell BK349.out 1).trans rfl
   have hfzz1 := blk_frozen BK349.out 0
   have hfzz2 := blk_frozen BK349.out 1
   have hczz3 : w5.cell? ⟨gb350, 0, none⟩ = some (.slice A1_0 l1_0.length c1_0) := (blk_cell BK350.out 0).trans rfl
   have hczz4 : w5.cell? ⟨gb350, 1, none⟩ = some (.slice A1_1 l1_1.length c1_1) := (blk_cell BK350.out 1).trans rfl
   have hfzz3 := blk_frozen BK350.out 0
   have hfzz4 := blk_frozen BK350.out 1
   go_wp2
   repeat (go_quiet (fail); try go_wp2)
   go_meet
   case rel => first | (exact ⟨_, (((l0_1.length : Int) != (l1_1.length : Int))), (by rfl), H', ⟨by first | omega | exact Nat.le_refl _⟩, ⟨zz12⟩, ⟨zz54⟩, ⟨zz0⟩⟩) | (exact ⟨_, (true), (by rfl), H', ⟨by omega⟩, ⟨zz12⟩, ⟨zz54⟩, ⟨zz0⟩⟩)
 case rest =>
  clear HC3
  obtain ⟨kq, x22_2, rfl, HA, HJ2, BK349, BK350, HB⟩ := hcut
  cases kq with
  | zero => exact absurd HA.out (by simp [R3_Same.j0])
  | succ kj2 =>
   have H := HA.out
   clear HA
   simp only [R3_Same.j0] at H
   by_cases c13 : x22_2 = true
   ·subst c13
    rw [if_pos rfl] at H
    obtain rfl := Option.some.inj H
    go_wp2
    repeat (go_quiet (fail); try go_wp2)
    go_ret
    exact ⟨by rfl, zz0⟩
   ·replace c13 := Bool.eq_false_iff.mpr c13
    subst c13
    rw [if_neg (show ¬ (false = true) by decide)] at H
    have H' := Aside0.mk H
    clear H
    go_wp2
    repeat (go_quiet (fail); try go_wp2)
    go_loopg [5] kj2 (fun kq v5 w' => ∃ (x5_2 : Int), v5 = .int .i64 x5_2 ∧ Aside0 (R3_Same.l0 kq x5_2 l0_0 l0_1 l1_0 l1_1 = some r) ∧ Aside0 (kq ≤ kj2) ∧ Aside0 (w'.heap[gb349]? = some (.cells #[(.slice A0_0 l0_0.length c0_0), (.slice A0_1 l0_1.length c0_1)] 27 (0, 0))) ∧ Aside0 (w'.heap[gb350]? = some (.cells #[(.slice A1_0 l1_0.length c1_0), (.slice A1_1 l1_1.length c1_1)] 27 (0, 0))) ∧ Aside0 (Below w.heap.size w w'))
    case atStart => exact ⟨(0), (by rfl), H', ⟨Nat.le_refl _⟩, ⟨zz12⟩, ⟨zz54⟩, ⟨zz0⟩⟩
    case round =>
     clear H'
     obtain ⟨x5_2, rfl, HA, HK2, BK349, BK350, HB⟩ := hrel
     cases gk with
     | zero => exact absurd HA.out (by simp [R3_Same.l0])
     | succ k2 =>
      have H := HA.out
      clear HA
      simp only [R3_Same.l0] at H
      revert H; refine X.ite_d (fun c14b0 H => ?_) (fun c14b0 H => ?_)
      by_cases c15 : 0 ≤ x5_2
      rw [if_pos c15] at H
      have c15b0 : decide (0 ≤ x5_2) = true := decide_eq_true c15
      clear c15
      by_cases c16 : x5_2 < (l1_0.length : Int)
      rw [if_pos c16] at H
      have c16b0 : decide (x5_2 < (l1_0.length : Int)) = true := decide_eq_true c16
      clear c16
      revert H; refine X.ite_b (fun c17b0 c17b1 H => ?_) (fun c17b0 c17b1 H => ?_)
      rotate_left
      rotate_left
      ·rw [if_neg c16] at H
       exact absurd H (by simp)
      ·rw [if_neg c15] at H
       exact absurd H (by simp)
      ·have H' := Aside0.mk H
       clear H
       have hnb24 := NB349_350.out
       have hnc24 := NB350_349.out
       have hcz25_0 : wr.cell? ⟨gb349, 0, none⟩ = some (.slice A0_0 l0_0.length c0_0) := (blk_cell BK349.out 0).trans rfl
       have hcz25_1 : wr.cell? ⟨gb349, 1, none⟩ = some (.slice A0_1 l0_1.length c0_1) := (blk_cell BK349.out 1).trans rfl
       have hfz25_0 := blk_frozen BK349.out 0
       have hfz25_1 := blk_frozen BK349.out 1
       go_wp2
       repeat (go_quiet (fail); try go_wp2)
       go_loopg [6] k2 (fun kq v6 w' => ∃ (x6_3 : Int), v6 = .int .i64 x6_3 ∧ Aside0 (R3_Same.l1 kq x6_3 l0_0 l0_1 l1_0 l1_1 = some r) ∧ Aside0 (kq ≤ k2) ∧ Aside0 (w'.heap[gb349]? = some (.cells #[(.slice A0_0 l0_0.length c0_0), (.slice A0_1 l0_1.length c0_1)] 27 (0, 0))) ∧ Aside0 (w'.heap[gb350]? = some (.cells #[(.slice A1_0 l1_0.length c1_0), (.slice A1_1 l1_1.length c1_1)] 27 (0, 0))) ∧ Aside0 (Below w.heap.size w w'))
       case atStart => exact ⟨(0), (by rfl), H', ⟨Nat.le_refl _⟩, ⟨zz12⟩, ⟨zz54⟩, ⟨zz0⟩⟩
       case round =>
        clear H'
        clear c14b0
        clear hcz25_0
        clear hcz25_1
        clear hfz25_0
        clear hfz25_1
        obtain ⟨x6_3, rfl, HA, HK3, BK349, BK350, HB⟩ := hrel
        cases gk with
        | zero => exact absurd HA.out (by simp [R3_Same.l1])
        | succ k3 =>
         have H := HA.out
         clear HA
         simp only [R3_Same.l1] at H
         by_cases c26 : x6_3 < (l0_1.length : Int)
         ·rw [if_pos c26] at H
          have c26b0 : decide (x6_3 < (l0_1.length : Int)) = true := decide_eq_true c26
          clear c26
          by_cases c27 : 0 ≤ x6_3
          ·rw [if_pos c27] at H
           have c27b0 : decide (0 ≤ x6_3) = true := decide_eq_true c27
           clear c27
           by_cases c28 : x6_3 < (l1_1.length : Int)
           ·rw [if_pos c28] at H
            have c28b0 : decide (x6_3 < (l1_1.length : Int)) = true := decide_eq_true c28
            clear c28
            by_cases c29 : (!(((rd_T41 l0_1 x6_3).f0) == ((rd_T41 l1_1 x6_3).f0)) || (!(((rd_T41 l0_1 x6_3).f1) == ((rd_T41 l1_1 x6_3).f1)) || (!(((rd_T41 l0_1 x6_3).f2) == ((rd_T41 l1_1 x6_3).f2)) || (!((((rd_T41 l0_1 x6_3).f3).toList) == (((rd_T41 l1_1 x6_3).f3).toList)))))) = true
            ·rw [if_pos c29] at H
             have c29b0 : (!(((rd_T41 l0_1 x6_3).f0) == ((rd_T41 l1_1 x6_3).f0)) || (!(((rd_T41 l0_1 x6_3).f1) == ((rd_T41 l1_1 x6_3).f1)) || (!(((rd_T41 l0_1 x6_3).f2) == ((rd_T41 l1_1 x6_3).f2)) || (!((((rd_T41 l0_1 x6_3).f3).toList) == (((rd_T41 l1_1 x6_3).f3).toList)))))) = true := c29
             clear c29
             obtain rfl := Option.some.inj H
             have hnb30 := NB349_350.out
             have hnc30 := NB350_349.out
             have hcz31_0 : wr.cell? ⟨gb349, 0, none⟩ = some (.slice A0_0 l0_0.length c0_0) := (blk_cell BK349.out 0).trans rfl
             have hcz31_1 : wr.cell? ⟨gb349, 1, none⟩ = some (.slice A0_1 l0_1.length c0_1) := (blk_cell BK349.out 1).trans rfl
             have hfz31_0 := blk_frozen BK349.out 0
             have hfz31_1 := blk_frozen BK349.out 1
             have p353 : 0 ≤ (x6_3 : Int) := of_decide_eq_true (zz5)
             have q353 : x6_3 < (l0_1.length : Int) := of_decide_eq_true (zz5)
             obtain ⟨ad353, e353, hx353_0, hx353_1, hx353_2, hx353_3⟩ := at_T41 HR0_1.out x6_3 p353 q353
             cases e353
             replace hx353_0 := (HB.out.cell (World.block_lt_of_cell? w _ hx353_0)).trans hx353_0
             replace hx353_1 := (HB.out.cell (World.block_lt_of_cell? w _ hx353_1)).trans hx353_1
             replace hx353_2 := (HB.out.cell (World.block_lt_of_cell? w _ hx353_2)).trans hx353_2
             replace hx353_3 := (HB.out.cell (World.block_lt_of_cell? w _ hx353_3)).trans hx353_3
             replace p353 := eq_true p353
             replace q353 := eq_true q353
             have hcz32_0 : wr.cell? ⟨gb350, 0, none⟩ = some (.slice A1_0 l1_0.length c1_0) := (blk_cell BK350.out 0).trans rfl
             have hcz32_1 : wr.cell? ⟨gb350, 1, none⟩ = some (.slice A1_1 l1_1.length c1_1) := (blk_cell BK350.out 1).trans rfl
             have hfz32_0 := blk_frozen BK350.out 0
             have hfz32_1 := blk_frozen BK350.out 1
             have p354 : 0 ≤ (x6_3 : Int) := of_decide_eq_true (zz5)
             have q354 : x6_3 < (l1_1.length : Int) := of_decide_eq_true (zz5)
             obtain ⟨ad354, e354, hx354_0, hx354_1, hx354_2, hx354_3⟩ := at_T41 HR1_1.out x6_3 p354 q354
             cases e354
             replace hx354_0 := (HB.out.cell (World.block_lt_of_cell? w _ hx354_0)).trans hx354_0
             replace hx354_1 := (HB.out.cell (World.block_lt_of_cell? w _ hx354_1)).trans hx354_1
             replace hx354_2 := (HB.out.cell (World.block_lt_of_cell? w _ hx354_2)).trans hx354_2
             replace hx354_3 := (HB.out.cell (World.block_lt_of_cell? w _ hx354_3)).trans hx354_3
             replace p354 := eq_true p354
             replace q354 := eq_true q354
             go_wp2
             repeat (go_quiet (fail); go_wp2)
             go_ret
             exact ⟨by rfl, zz3⟩
            ·rw [if_neg c29] at H
             have c29b0 : (!(((rd_T41 l0_1 x6_3).f0) == ((rd_T41 l1_1 x6_3).f0)) || (!(((rd_T41 l0_1 x6_3).f1) == ((rd_T41 l1_1 x6_3).f1)) || (!(((rd_T41 l0_1 x6_3).f2) == ((rd_T41 l1_1 x6_3).f2)) || (!((((rd_T41 l0_1 x6_3).f3).toList) == (((rd_T41 l1_1 x6_3).f3).toList)))))) = false := by simpa using c29
             clear c29
             have H' := Aside0.mk H
             clear H
             have hnb33 := NB349_350.out
             have hnc33 := NB350_349.out
             have hcz34_0 : wr.cell? ⟨gb349, 0, none⟩ = some (.slice A0_0 l0_0.length c0_0) := (blk_cell BK349.out 0).trans rfl
             have hcz34_1 : wr.cell? ⟨gb349, 1, none⟩ = some (.slice A0_1 l0_1.length c0_1) := (blk_cell BK349.out 1).trans rfl
             have hfz34_0 := blk_frozen BK349.out 0
             have hfz34_1 := blk_frozen BK349.out 1
             have p353 : 0 ≤ (x6_3 : Int) := of_decide_eq_true (zz5)
             have q353 : x6_3 < (l0_1.length : Int) := of_decide_eq_true (zz5)
             obtain ⟨ad353, e353, hx353_0, hx353_1, hx353_2, hx353_3⟩ := at_T41 HR0_1.out x6_3 p353 q353
             cases e353
             replace hx353_0 := (HB.out.cell (World.block_lt_of_cell? w _ hx353_0)).trans hx353_0
             replace hx353_1 := (HB.out.cell (World.block_lt_of_cell? w _ hx353_1)).trans hx353_1
             replace hx353_2 := (HB.out.cell (World.block_lt_of_cell? w _ hx353_2)).trans hx353_2
             replace hx353_3 := (HB.out.cell (World.block_lt_of_cell? w _ hx353_3)).trans hx353_3
             replace p353 := eq_true p353
             replace q353 := eq_true q353
             have hcz35_0 : wr.cell? ⟨gb350, 0, none⟩ = some (.slice A1_0 l1_0.length c1_0) := (blk_cell BK350.out 0).trans rfl
             have hcz35_1 : wr.cell? ⟨gb350, 1, none⟩ = some (.slice A1_1 l1_1.length c1_1) := (blk_cell BK350.out 1).trans rfl
             have hfz35_0 := blk_frozen BK350.out 0
             have hfz35_1 := blk_frozen BK350.out 1
             have p354 : 0 ≤ (x6_3 : Int) := of_decide_eq_true (zz5)
             have q354 : x6_3 < (l1_1.length : Int) := of_decide_eq_true (zz5)
             obtain ⟨ad354, e354, hx354_0, hx354_1, hx354_2, hx354_3⟩ := at_T41 HR1_1.out x6_3 p354 q354
             cases e354
             replace hx354_0 := (HB.out.cell (World.block_lt_of_cell? w _ hx354_0)).trans hx354_0
             replace hx354_1 := (HB.out.cell (World.block_lt_of_cell? w _ hx354_1)).trans hx354_1
             replace hx354_2 := (HB.out.cell (World.block_lt_of_cell? w _ hx354_2)).trans hx354_2
             replace hx354_3 := (HB.out.cell (World.block_lt_of_cell? w _ hx354_3)).trans hx354_3
             replace p354 := eq_true p354
             replace q354 := eq_true q354
             go_wp2
             repeat (go_quiet (fail); go_wp2)
             go_roundg k3
             case measure => have := HJ2.out; have := HK2.out; have := HK3.out; omega
             case rel => exact ⟨(wrap64 (x6_3 + 1)), (by rfl), H', ⟨by have := HJ2.out; have := HK2.out; have := HK3.out; omega⟩, ⟨by (with_reducible repeat (refine blk_drewN ?_ _)); exact BK349.out⟩, ⟨by (with_reducible repeat (refine blk_drewN ?_ _)); exact BK350.out⟩, ⟨zz3⟩⟩
           ·rw [if_neg c28] at H
            exact absurd H (by simp)
          ·rw [if_neg c27] at H
           exact absurd H (by simp)
         ·rw [if_neg c26] at H
          have c26b0 : decide (x6_3 < (l0_1.length : Int)) = false := decide_eq_false c26
          clear c26
          obtain rfl := Option.some.inj H
          have hnb36 := NB349_350.out
          have hnc36 := NB350_349.out
          have hcz37_0 : wr.cell? ⟨gb349, 0, none⟩ = some (.slice A0_0 l0_0.length c0_0) := (blk_cell BK349.out 0).trans rfl
          have hcz37_1 : wr.cell? ⟨gb349, 1, none⟩ = some (.slice A0_1 l0_1.length c0_1) := (blk_cell BK349.out 1).trans rfl
          have hfz37_0 := blk_frozen BK349.out 0
          have hfz37_1 := blk_frozen BK349.out 1
          go_wp2
          repeat (go_quiet (fail); try go_wp2)
          go_ret
          exact ⟨by rfl, zz0⟩
      all_goals first
      | (have H' := Aside0.mk H
         clear H
         have hnb18 := NB349_350.out
         have hnc18 := NB350_349.out
         have hcz19_0 : wr.cell? ⟨gb349, 0, none⟩ = some (.slice A0_0 l0_0.length c0_0) := (blk_cell BK349.out 0).trans rfl
         have hcz19_1 : wr.cell? ⟨gb349, 1, none⟩ = some (.slice A0_1 l0_1.length c0_1) := (blk_cell BK349.out 1).trans rfl
         have hfz19_0 := blk_frozen BK349.out 0
         have hfz19_1 := blk_frozen BK349.out 1
         have pz1 : 0 ≤ (x5_2 : Int) := of_decide_eq_true (zz5)
         have qz1 : x5_2 < (l0_0.length : Int) := of_decide_eq_true (zz5)
         obtain ⟨adz1, ez1, hxz1⟩ := Kd.at_string HR0_0.out x5_2 pz1 qz1
         cases ez1
         replace hxz1 := (HB.out.cell (World.block_lt_of_cell? w _ hxz1)).trans hxz1
         replace pz1 := eq_true pz1
         replace qz1 := eq_true qz1
         have hczz1 : wr.cell? ⟨gb350, 0, none⟩ = some (.slice A1_0 l1_0.length c1_0) := (blk_cell BK350.out 0).trans rfl
         have hczz2 : wr.cell? ⟨gb350, 1, none⟩ = some (.slice A1_1 l1_1.length c1_1) := (blk_cell BK350.out 1).trans rfl
         have hfzz1 := blk_frozen BK350.out 0
         have hfzz2 := blk_frozen BK350.out 1
         have pz2 : 0 ≤ (x5_2 : Int) := of_decide_eq_true (zz5)
         have qz2 : x5_2 < (l1_0.length : Int) := of_decide_eq_true (zz5)
         obtain ⟨adz2, ez2, hxz2⟩ := Kd.at_string HR1_0.out x5_2 pz2 qz2
         cases ez2
         replace hxz2 := (HB.out.cell (World.block_lt_of_cell? w _ hxz2)).trans hxz2
         replace pz2 := eq_true pz2
         replace qz2 := eq_true qz2
         go_wp2
         repeat (go_quiet (fail); go_wp2)
         go_roundg k2
         case measure => have := HJ2.out; have := HK2.out; omega
         case rel => exact ⟨(wrap64 (x5_2 + 1)), (by rfl), H', ⟨by have := HJ2.out; have := HK2.out; omega⟩, ⟨by (with_reducible repeat (refine blk_drewN ?_ _)); exact BK349.out⟩, ⟨by (with_reducible repeat (refine blk_drewN ?_ _)); exact BK350.out⟩, ⟨zz3⟩⟩)
      | (obtain rfl := Option.some.inj H
         have hnbz1 := NB349_350.out
         have hncz1 := NB350_349.out
         have hczz1 : wr.cell? ⟨gb349, 0, none⟩ = some (.slice A0_0 l0_0.length c0_0) := (blk_cell BK349.out 0).trans rfl
         have hczz2 : wr.cell? ⟨gb349, 1, none⟩ = some (.slice A0_1 l0_1.length c0_1) := (blk_cell BK349.out 1).trans rfl
         have hfzz1 := blk_frozen BK349.out 0
         have hfzz2 := blk_frozen BK349.out 1
         have pz1 : 0 ≤ (x5_2 : Int) := of_decide_eq_true (zz5)
         have qz1 : x5_2 < (l0_0.length : Int) := of_decide_eq_true (zz5)
         obtain ⟨adz1, ez1, hxz1⟩ := Kd.at_string HR0_0.out x5_2 pz1 qz1
         cases ez1
         replace hxz1 := (HB.out.cell (World.block_lt_of_cell? w _ hxz1)).trans hxz1
         replace pz1 := eq_true pz1
         replace qz1 := eq_true qz1
         have hczz3 : wr.cell? ⟨gb350, 0, none⟩ = some (.slice A1_0 l1_0.length c1_0) := (blk_cell BK350.out 0).trans rfl
         have hczz4 : wr.cell? ⟨gb350, 1, none⟩ = some (.slice A1_1 l1_1.length c1_1) := (blk_cell BK350.out 1).trans rfl
         have hfzz3 := blk_frozen BK350.out 0
         have hfzz4 := blk_frozen BK350.out 1
         have pz2 : 0 ≤ (x5_2 : Int) := of_decide_eq_true (zz5)
         have qz2 : x5_2 < (l1_0.length : Int) := of_decide_eq_true (zz5)
         obtain ⟨adz2, ez2, hxz2⟩ := Kd.at_string HR1_0.out x5_2 pz2 qz2
         cases ez2
         replace hxz2 := (HB.out.cell (World.block_lt_of_cell? w _ hxz2)).trans hxz2
         replace pz2 := eq_true pz2
         replace qz2 := eq_true qz2
         go_wp2
         repeat (go_quiet (fail); go_wp2)
         go_ret
         exact ⟨by rfl, zz3⟩)
end Go.Proofs.YtlhhhlimjajnlaaGreat.Q
end
