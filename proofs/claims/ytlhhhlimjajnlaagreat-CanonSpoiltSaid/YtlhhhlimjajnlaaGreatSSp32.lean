/- Parts of the proof of canonSpoilt_holds, kept and merged by a program of mine (wip/tools/slim.py) out of my texts: Q18 Q19 P14a -/
import Derived.Test.YtlhhhlimjajnlaaGreatSSp0
import Derived.Test.YtlhhhlimjajnlaaGreatSSp4
import Derived.Test.YtlhhhlimjajnlaaGreatSSp26
import Derived.Test.YtlhhhlimjajnlaaGreatSSp31
section
namespace Go.Proofs.YtlhhhlimjajnlaaGreat.X
end Go.Proofs.YtlhhhlimjajnlaaGreat.X
namespace Go.Proofs.YtlhhhlimjajnlaaGreat.Q
open Go.RowKit Go.Proofs.YtlhhhlimjajnlaaGreatW.PrintWords Go.Proofs.YtlhhhlimjajnlaaGreatW.PrintLast Go.Proofs.YtlhhhlimjajnlaaGreatW.PrintMore
attribute [local go_sem] max2_int min2_int max_two min_two max_three min_three max_four min_four   
open Go.Proofs.YtlhhhlimjajnlaaGreat.X
set_option linter.unusedVariables false
set_option linter.unusedSimpArgs false
def canon_Canon.f (a0 : ByteArray) : Option (ByteArray × Int) := (parser_Parse.f a0).bind fun bt374 => (if bt374.2.2 = 0 then ((canon_Write.f bt374.1 bt374.2.1).bind fun bt382 => (some (bt382.1, bt382.2))) else (some ((⟨#[]⟩ : ByteArray), bt374.2.2)))
set_option maxHeartbeats 8000000 in
set_option maxRecDepth 100000 in
theorem canon_Canon.calls (a0 : ByteArray) (r1 : ByteArray) (r2 : Int) (w : World) (hG : G w) (h : canon_Canon.f a0 = some (r1, r2)) :
 Calls Tryz.prog 22 #[.string a0] w fun e w' => e = .returned (.tuple #[.string r1, .int .i64 r2]) ∧ Below w.heap.size w w' := by
 have hu27 := Tryz.underlying27
 have HB := Aside0.mk (Below.refl w.heap.size w)
 have H : ((parser_Parse.f a0).bind fun bt374 => (if bt374.2.2 = 0 then ((canon_Write.f bt374.1 bt374.2.1).bind fun bt382 => (some (bt382.1, bt382.2))) else (some ((⟨#[]⟩ : ByteArray), bt374.2.2)))) = some (r1, r2) := h
 clear h
 replace H := Option.bind_eq_some_iff.mp H
 obtain ⟨⟨t374, t377, t380⟩, A20, H⟩ := H
 replace H : (if t380 = 0 then ((canon_Write.f t374 t377).bind fun bt382 => (some (bt382.1, bt382.2))) else (some ((⟨#[]⟩ : ByteArray), t380))) = some (r1, r2) := H
 have A2 := Aside0.mk A20
 clear A20
 by_cases c3 : t380 = 0
 ·rw [if_pos c3] at H
  have c3b0 : (t380 == 0) = true := beq_iff_eq.mpr c3
  have c3b1 : (t380 != 0) = false := bne_eq_false_iff_eq.mpr c3
  clear c3
  replace H := Option.bind_eq_some_iff.mp H
  obtain ⟨⟨t382, t383⟩, A40, H⟩ := H
  replace H : (some (t382, t383)) = some (r1, r2) := H
  have A4 := Aside0.mk A40
  clear A40
  simp only [Option.some.injEq, Prod.mk.injEq] at H
  obtain ⟨rfl, rfl⟩ := H
  go_enter Tryz.func22, Tryz.ntmps22
  go_wp2_with (first | ((with_reducible refine gate_callee (f := 12) rfl ?_); refine goesL_ (some 8) rfl rfl Tryz.func12 (by kernel_rfl) rfl #[.string a0] rfl (zz4) ?_; (with_reducible refine (parser_Parse.calls a0 t374 t377 t380 _ (by first | exact hG | exact G.below hG (zz0)) A2.out).mono ?_); rintro e w5 ⟨v375, v378, rfl, ho0, ho1, hb⟩; refine ⟨_, rfl, ?_⟩; have n0_ := Aside0.mk (Kd.R_lower ho0 (below_size (zz0))); have n1_ := Aside0.mk (Kd.R_lower ho1 (below_size (zz0))); have n2_ := Aside0.mk (below_step (zz0) hb); clear HB; have HO376 := n0_; have HO379 := n1_; have HB := n2_; clear n0_ n1_ n2_; (try clear hb); (try clear hb2); (try clear hk); (try clear hi); (try clear ho0); (try clear ho1)) | ((with_reducible refine gate_dst (N := 4) rfl ?_); refine box_event ?hg (N := 4) ?hd (cs := #[.slice none 0 0, .slice none 0 0]) (t := 27) ?hr ?_; (case hd => rfl); (case hg => rfl); (case hr => first | (go_simp; done) | (go_simp; rfl)); intro gb381 hg w6 hbox hb; have n0_ := Aside0.mk (Kd.R_below (by (with_reducible repeat (first | apply Kd.R_alloc | apply Kd.R_drewN | apply Kd.R_drew)); exact HO376.out) hb); have n1_ := Aside0.mk (Kd.R_below (by (with_reducible repeat (first | apply Kd.R_alloc | apply Kd.R_drewN | apply Kd.R_drew)); exact HO379.out) hb); have n2_ := Aside0.mk (below_step (zz0) hb); have n3_ := Aside0.mk (hbox); have n4_ := Aside0.mk ((zz24 : w.heap.size ≤ gb381)); have n5_ := Aside0.mk ((zz24 : w.heap.size ≤ gb381)); clear HO376; clear HO379; clear HB; have HO376 := n0_; have HO379 := n1_; have HB := n2_; have BK381 := n3_; have GW381 := n4_; have GE381 := n5_; clear n0_ n1_ n2_ n3_ n4_ n5_; clear hb hbox hg; obtain ⟨Ao7, co7, eo7⟩ := Kd.R_slice HO376.out; subst eo7; have hcz8_0 : w6.cell? ⟨gb381, 0, none⟩ = some (.slice none 0 0) := (blk_cell BK381.out 0).trans rfl; have hcz8_1 : w6.cell? ⟨gb381, 1, none⟩ = some (.slice none 0 0) := (blk_cell BK381.out 1).trans rfl; have hfz8_0 := blk_frozen BK381.out 0; have hfz8_1 := blk_frozen BK381.out 1; obtain ⟨Ao9, co9, eo9⟩ := Kd.R_slice HO379.out; subst eo9) | ((with_reducible refine gate_callee (f := 17) rfl ?_); refine goesL_ (some 15) rfl rfl Tryz.func17 (by kernel_rfl) rfl #[.agg #[.slice Ao7 t374.length co7, .slice Ao9 t377.length co9]] rfl (zz4) ?_; (with_reducible refine (canon_Write.calls _ _ t374 _ _ t377 t382 t383 _ ?side1 ?side2 ?side3 ?side4 A4.out).mono ?_); (case side1 => refine (Kd.R_reads' (e := 9) (base := w.heap.size) (ok := fun k_ => True) (n := t374.length) (c := co7) ?_).2.2; exact (by (with_reducible repeat (first | apply Kd.R_alloc | apply Kd.R_drewN | apply Kd.R_drew)); exact (Kd.R_mono (Kd.R_far (p := ⟨gb381, 1, none⟩) (Kd.R_far (p := ⟨gb381, 0, none⟩) (Kd.R_types HO376.out BK381.out (by decide)) (fun _ hk => hk.2) (.slice Ao7 t374.length co7)) (fun _ hk => hk.2) (.slice Ao9 t377.length co9)) (fun _ h_ => h_.1)))); (case side2 => exact (Kd.R_reads' HO376.out).2.1); (case side3 => refine (Kd.R_reads' (e := 41) (base := w.heap.size) (ok := fun k_ => True) (n := t377.length) (c := co9) ?_).2.2; exact (by (with_reducible repeat (first | apply Kd.R_alloc | apply Kd.R_drewN | apply Kd.R_drew)); exact (Kd.R_mono (Kd.R_far (p := ⟨gb381, 1, none⟩) (Kd.R_far (p := ⟨gb381, 0, none⟩) (Kd.R_types HO379.out BK381.out (by decide)) (fun _ hk => hk.2) (.slice Ao7 t374.length co7)) (fun _ hk => hk.2) (.slice Ao9 t377.length co9)) (fun _ h_ => h_.1)))); (case side4 => exact (Kd.R_reads' HO379.out).2.1); rintro e w10 ⟨rfl, hb⟩; refine ⟨_, rfl, ?_⟩; have n0_ := Aside0.mk (Kd.R_below (by (with_reducible repeat (first | apply Kd.R_alloc | apply Kd.R_drewN | apply Kd.R_drew)); exact (Kd.R_mono (Kd.R_far (p := ⟨gb381, 1, none⟩) (Kd.R_far (p := ⟨gb381, 0, none⟩) (Kd.R_types HO376.out BK381.out (by decide)) (fun _ hk => hk.2) (.slice Ao7 t374.length co7)) (fun _ hk => hk.2) (.slice Ao9 t377.length co9)) (fun _ h_ => h_.1))) hb); have n1_ := Aside0.mk (Kd.R_below (by (with_reducible repeat (first | apply Kd.R_alloc | apply Kd.R_drewN | apply Kd.R_drew)); exact (Kd.R_mono (Kd.R_far (p := ⟨gb381, 1, none⟩) (Kd.R_far (p := ⟨gb381, 0, none⟩) (Kd.R_types HO379.out BK381.out (by decide)) (fun _ hk => hk.2) (.slice Ao7 t374.length co7)) (fun _ hk => hk.2) (.slice Ao9 t377.length co9)) (fun _ h_ => h_.1))) hb); have n2_ := Aside0.mk (blk_below (g := gb381) (o := .cells #[.slice Ao7 t374.length co7, .slice Ao9 t377.length co9] 27 (0, 0)) (by (with_reducible repeat (first | refine blk_drewN ?_ _ | refine blk_drew ?_ | refine blk_alloc ?_ _)); refine blk_put (cs := #[.slice Ao7 t374.length co7, .slice none 0 0]) ?_ 1 _ rfl; (with_reducible repeat (first | refine blk_drewN ?_ _ | refine blk_drew ?_ | refine blk_alloc ?_ _)); refine blk_put (cs := #[.slice none 0 0, .slice none 0 0]) ?_ 0 _ rfl; (with_reducible repeat (first | refine blk_drewN ?_ _ | refine blk_drew ?_ | refine blk_alloc ?_ _)); exact BK381.out) hb); have n3_ := Aside0.mk (below_step (zz28) hb); clear HO376; clear HO379; clear BK381; clear HB; have HO376 := n0_; have HO379 := n1_; have BK381 := n2_; have HB := n3_; clear n0_ n1_ n2_ n3_; (try clear hb); (try clear hb2); (try clear hk); (try clear hi)))
  go_ret2
  exact ⟨zz8, zz28⟩
 ·rw [if_neg c3] at H
  have c3b0 : (t380 == 0) = false := beq_eq_false_iff_ne.mpr c3
  have c3b1 : (t380 != 0) = true := bne_iff_ne.mpr c3
  simp only [Option.some.injEq, Prod.mk.injEq] at H
  obtain ⟨rfl, rfl⟩ := H
  go_enter Tryz.func22, Tryz.ntmps22
  go_wp2_with (first | ((with_reducible refine gate_callee (f := 12) rfl ?_); refine goesL_ (some 8) rfl rfl Tryz.func12 (by kernel_rfl) rfl #[.string a0] rfl (zz4) ?_; (with_reducible refine (parser_Parse.calls a0 t374 t377 t380 _ (by first | exact hG | exact G.below hG (zz0)) A2.out).mono ?_); rintro e w11 ⟨v375, v378, rfl, ho0, ho1, hb⟩; refine ⟨_, rfl, ?_⟩; have n0_ := Aside0.mk (Kd.R_lower ho0 (below_size (zz0))); have n1_ := Aside0.mk (Kd.R_lower ho1 (below_size (zz0))); have n2_ := Aside0.mk (below_step (zz0) hb); clear HB; have HO376 := n0_; have HO379 := n1_; have HB := n2_; clear n0_ n1_ n2_; (try clear hb); (try clear hb2); (try clear hk); (try clear hi); (try clear ho0); (try clear ho1)) | ((with_reducible refine gate_dst (N := 4) rfl ?_); refine box_event ?hg (N := 4) ?hd (cs := #[.slice none 0 0, .slice none 0 0]) (t := 27) ?hr ?_; (case hd => rfl); (case hg => rfl); (case hr => first | (go_simp; done) | (go_simp; rfl)); intro gb381 hg w12 hbox hb; have n0_ := Aside0.mk (Kd.R_below (by (with_reducible repeat (first | apply Kd.R_alloc | apply Kd.R_drewN | apply Kd.R_drew)); exact HO376.out) hb); have n1_ := Aside0.mk (Kd.R_below (by (with_reducible repeat (first | apply Kd.R_alloc | apply Kd.R_drewN | apply Kd.R_drew)); exact HO379.out) hb); have n2_ := Aside0.mk (below_step (zz0) hb); have n3_ := Aside0.mk (hbox); have n4_ := Aside0.mk ((zz24 : w.heap.size ≤ gb381)); have n5_ := Aside0.mk ((zz24 : w.heap.size ≤ gb381)); clear HO376; clear HO379; clear HB; have HO376 := n0_; have HO379 := n1_; have HB := n2_; have BK381 := n3_; have GW381 := n4_; have GE381 := n5_; clear n0_ n1_ n2_ n3_ n4_ n5_; clear hb hbox hg; obtain ⟨Ao13, co13, eo13⟩ := Kd.R_slice HO376.out; subst eo13; have hcz14_0 : w12.cell? ⟨gb381, 0, none⟩ = some (.slice none 0 0) := (blk_cell BK381.out 0).trans rfl; have hcz14_1 : w12.cell? ⟨gb381, 1, none⟩ = some (.slice none 0 0) := (blk_cell BK381.out 1).trans rfl; have hfz14_0 := blk_frozen BK381.out 0; have hfz14_1 := blk_frozen BK381.out 1; obtain ⟨Ao15, co15, eo15⟩ := Kd.R_slice HO379.out; subst eo15))
  go_ret2
  exact ⟨zz8, zz28⟩
end Go.Proofs.YtlhhhlimjajnlaaGreat.Q
end
section
namespace Go.Proofs.YtlhhhlimjajnlaaGreat.X
end Go.Proofs.YtlhhhlimjajnlaaGreat.X
namespace Go.Proofs.YtlhhhlimjajnlaaGreat.Q
open Go.RowKit Go.Proofs.YtlhhhlimjajnlaaGreatW.PrintWords Go.Proofs.YtlhhhlimjajnlaaGreatW.PrintLast Go.Proofs.YtlhhhlimjajnlaaGreatW.PrintMore
attribute [local go_sem] max2_int min2_int max_two min_two max_three min_three max_four min_four   
open Go.Proofs.YtlhhhlimjajnlaaGreat.X
set_option linter.unusedVariables false
set_option linter.unusedSimpArgs false
def L4_awake.f  : Option (Bool) := (canon_Canon.f (⟨#[60, 97, 32, 98, 61, 39, 38, 103, 116, 59, 39, 32, 62, 120, 60, 99, 47, 62, 60, 47, 97, 62]⟩ : ByteArray)).bind fun bt384 => (if bt384.1.toList = ([60, 97, 32, 98, 61, 34, 38, 103, 116, 59, 34, 62, 120, 60, 99, 62, 60, 47, 99, 62, 60, 47, 97, 62] : List UInt8) then (some (bt384.2 == 0)) else (some false))
set_option maxHeartbeats 8000000 in
set_option maxRecDepth 100000 in
theorem L4_awake.calls  (r : Bool) (w : World) (hG : G w) (h : L4_awake.f  = some r) :
 Calls Tryz.prog 15 #[] w fun e w' => e = .returned (.bool r) ∧ Below w.heap.size w w' := by
 have HB := Aside0.mk (Below.refl w.heap.size w)
 have H : ((canon_Canon.f (⟨#[60, 97, 32, 98, 61, 39, 38, 103, 116, 59, 39, 32, 62, 120, 60, 99, 47, 62, 60, 47, 97, 62]⟩ : ByteArray)).bind fun bt384 => (if bt384.1.toList = ([60, 97, 32, 98, 61, 34, 38, 103, 116, 59, 34, 62, 120, 60, 99, 62, 60, 47, 99, 62, 60, 47, 97, 62] : List UInt8) then (some (bt384.2 == 0)) else (some false))) = some r := h
 clear h
 replace H := Option.bind_eq_some_iff.mp H
 obtain ⟨⟨t384, t385⟩, A10, H⟩ := H
 replace H : (if t384.toList = ([60, 97, 32, 98, 61, 34, 38, 103, 116, 59, 34, 62, 120, 60, 99, 62, 60, 47, 99, 62, 60, 47, 97, 62] : List UInt8) then (some (t385 == 0)) else (some false)) = some r := H
 have A1 := Aside0.mk A10
 clear A10
 by_cases c2 : t384.toList = ([60, 97, 32, 98, 61, 34, 38, 103, 116, 59, 34, 62, 120, 60, 99, 62, 60, 47, 99, 62, 60, 47, 97, 62] : List UInt8)
 ·rw [if_pos c2] at H
  have c2b0 : (t384.toList == ([60, 97, 32, 98, 61, 34, 38, 103, 116, 59, 34, 62, 120, 60, 99, 62, 60, 47, 99, 62, 60, 47, 97, 62] : List UInt8)) = true := beq_iff_eq.mpr c2
  have c2b1 : (t384.toList != ([60, 97, 32, 98, 61, 34, 38, 103, 116, 59, 34, 62, 120, 60, 99, 62, 60, 47, 99, 62, 60, 47, 97, 62] : List UInt8)) = false := bne_eq_false_iff_eq.mpr c2
  clear c2
  obtain rfl := Option.some.inj H
  go_enter Tryz.func15, Tryz.ntmps15
  go_wp2_with (first | ((with_reducible refine gate_callee (f := 22) rfl ?_); refine goesL_ (some 4) rfl rfl Tryz.func22 (by kernel_rfl) rfl #[.string (⟨#[60, 97, 32, 98, 61, 39, 38, 103, 116, 59, 39, 32, 62, 120, 60, 99, 47, 62, 60, 47, 97, 62]⟩ : ByteArray)] rfl (zz4) ?_; (with_reducible refine (canon_Canon.calls (⟨#[60, 97, 32, 98, 61, 39, 38, 103, 116, 59, 39, 32, 62, 120, 60, 99, 47, 62, 60, 47, 97, 62]⟩ : ByteArray) t384 t385 _ (by first | exact hG | exact G.below hG (zz0)) A1.out).mono ?_); rintro e w3 ⟨rfl, hb⟩; refine ⟨_, rfl, ?_⟩; have n0_ := Aside0.mk (below_step (zz0) hb); clear HB; have HB := n0_; clear n0_; (try clear hb); (try clear hb2); (try clear hk); (try clear hi)))
  go_ret
  exact ⟨zz8, zz0⟩
 ·rw [if_neg c2] at H
  have c2b0 : (t384.toList == ([60, 97, 32, 98, 61, 34, 38, 103, 116, 59, 34, 62, 120, 60, 99, 62, 60, 47, 99, 62, 60, 47, 97, 62] : List UInt8)) = false := beq_eq_false_iff_ne.mpr c2
  have c2b1 : (t384.toList != ([60, 97, 32, 98, 61, 34, 38, 103, 116, 59, 34, 62, 120, 60, 99, 62, 60, 47, 99, 62, 60, 47, 97, 62] : List UInt8)) = true := bne_iff_ne.mpr c2
  obtain rfl := Option.some.inj H
  go_enter Tryz.func15, Tryz.ntmps15
  go_wp2_with (first | ((with_reducible refine gate_callee (f := 22) rfl ?_); refine goesL_ (some 4) rfl rfl Tryz.func22 (by kernel_rfl) rfl #[.string (⟨#[60, 97, 32, 98, 61, 39, 38, 103, 116, 59, 39, 32, 62, 120, 60, 99, 47, 62, 60, 47, 97, 62]⟩ : ByteArray)] rfl (zz4) ?_; (with_reducible refine (canon_Canon.calls (⟨#[60, 97, 32, 98, 61, 39, 38, 103, 116, 59, 39, 32, 62, 120, 60, 99, 47, 62, 60, 47, 97, 62]⟩ : ByteArray) t384 t385 _ (by first | exact hG | exact G.below hG (zz0)) A1.out).mono ?_); rintro e w4 ⟨rfl, hb⟩; refine ⟨_, rfl, ?_⟩; have n0_ := Aside0.mk (below_step (zz0) hb); clear HB; have HB := n0_; clear n0_; (try clear hb); (try clear hb2); (try clear hk); (try clear hi)))
  go_ret
  exact ⟨zz8, zz0⟩
def L4_short.f (a0 : ByteArray) (a1 : Int) : Option (ByteArray) := if (a0.size : Int) > a1 then (if 0 ≤ a1 then (if a1 ≤ (a0.size : Int) then (some (a0.extract 0 (a1 : Int).toNat)) else (none)) else (none)) else (some a0)
set_option maxHeartbeats 8000000 in
set_option maxRecDepth 100000 in
theorem L4_short.calls (a0 : ByteArray) (a1 : Int) (r : ByteArray) (w : World) (h : L4_short.f a0 a1 = some r) :
 Calls Tryz.prog 21 #[.string a0, .int .i64 a1] w fun e w' => e = .returned (.string r) ∧ Drawn0 w w' := by
 have H : (if (a0.size : Int) > a1 then (if 0 ≤ a1 then (if a1 ≤ (a0.size : Int) then (some (a0.extract 0 (a1 : Int).toNat)) else (none)) else (none)) else (some a0)) = some r := h
 clear h
 by_cases c3 : (a0.size : Int) > a1
 ·rw [if_pos c3] at H
  have c3b0 : decide (a1 < (a0.size : Int)) = true := decide_eq_true c3
  clear c3
  by_cases c4 : 0 ≤ a1
  ·rw [if_pos c4] at H
   have c4b0 := eq_true c4
   have c4b1 : decide (0 ≤ a1) = true := decide_eq_true c4
   clear c4
   by_cases c5 : a1 ≤ (a0.size : Int)
   ·rw [if_pos c5] at H
    have c5b0 := eq_true c5
    have c5b1 : decide (a1 ≤ (a0.size : Int)) = true := decide_eq_true c5
    clear c5
    obtain rfl := Option.some.inj H
    go_enter Tryz.func21, Tryz.ntmps21
    go_wp2
    go_ret
    exact ⟨zz5, zz1⟩
   ·rw [if_neg c5] at H
    exact absurd H (by simp)
  ·rw [if_neg c4] at H
   exact absurd H (by simp)
 ·rw [if_neg c3] at H
  have c3b0 : decide (a1 < (a0.size : Int)) = false := decide_eq_false c3
  clear c3
  obtain rfl := Option.some.inj H
  go_enter Tryz.func21, Tryz.ntmps21
  go_wp2
  go_ret
  exact ⟨zz5, zz1⟩
end Go.Proofs.YtlhhhlimjajnlaaGreat.Q
end
section
set_option linter.unusedVariables false
set_option linter.unusedSimpArgs false
namespace Go.Proofs.YtlhhhlimjajnlaaGreat.P14
open Go.RowKit Go.Proofs.YtlhhhlimjajnlaaGreat Go.Proofs.YtlhhhlimjajnlaaGreat.Q Go.Proofs.YtlhhhlimjajnlaaGreat.P11 Go.Proofs.YtlhhhlimjajnlaaGreat.P12 Go.Proofs.YtlhhhlimjajnlaaGreatW.PrintWords Go.Proofs.YtlhhhlimjajnlaaGreat.X Go.Proofs.YtlhhhlimjajnlaaGreat.P13
def exC : ByteArray := ⟨#[60, 97, 32, 98, 61, 39, 38, 103, 116, 59, 39, 32, 62, 120, 60, 99, 47, 62, 60, 47, 97, 62]⟩
def psC : PS := ⟨[⟨1, 0, -1, ⟨#[]⟩⟩, ⟨2, 0, 0, ⟨#[62]⟩⟩, ⟨3, -1, 0, ⟨#[120]⟩⟩, ⟨1, 0, 0, ⟨#[]⟩⟩], [⟨#[97]⟩, ⟨#[98]⟩, ⟨#[]⟩, ⟨#[99]⟩], [], ⟨#[]⟩, false, false⟩
def nmC : List ByteArray := [⟨#[97]⟩, ⟨#[98]⟩, ⟨#[99]⟩]
def ndC : List Nod := [⟨1, 0, -1, ⟨#[]⟩⟩, ⟨2, 1, 0, ⟨#[62]⟩⟩, ⟨3, -1, 0, ⟨#[120]⟩⟩, ⟨1, 2, 0, ⟨#[]⟩⟩]
theorem exC_ps : flushP ((lexV exC).1.foldl X.stepT psZero) = psC := by kernel_rfl
theorem exC_ok : (lexV exC).2 = 0 := by kernel_rfl
theorem names_C : sortedP (namesOf psC) = [[97], [98], [99]] := by
 unfold sortedP
 rw [show onceP (namesOf psC) = [[97], [98], [99]] from by kernel_rfl]
 exact List.mergeSort_of_pairwise (by decide)
theorem exC_v : parseV exC = ((nmC, ndC), 0) := by
 rw [parse1 exC exC_ok, exC_ps]
 unfold treeP
 rw [names_C, if_neg (by decide), if_neg (by decide)]
 rfl
theorem exC_small : smallW nmC ndC = true := by kernel_rfl
theorem exC_w : writeV nmC ndC = (⟨#[60, 97, 32, 98, 61, 34, 38, 103, 116, 59, 34, 62, 120, 60, 99, 62, 60, 47, 99, 62, 60, 47, 97, 62]⟩, 0) := by kernel_rfl
def ouC : ByteArray := ⟨#[60, 97, 32, 98, 61, 34, 38, 103, 116, 59, 34, 62, 120, 60, 99, 62, 60, 47, 99, 62, 60, 47, 97, 62]⟩
theorem exC_write : canon_Write.f nmC ndC = some (ouC, 0) := by rw [canon_Write.f, if_pos exC_small, exC_w]; rfl
theorem exC_canon : canon_Canon.f exC = some (ouC, 0) := by
 unfold canon_Canon.f
 rw [parser_Parse.f, if_pos (by decide), exC_v, Option.bind_some]
 show (if (0 : Int) = 0 then (canon_Write.f nmC ndC).bind (fun b => some (b.1, b.2)) else _) = _
 rw [if_pos rfl, exC_write]; rfl
theorem awake14 : L4_awake.f = some true := by
 unfold L4_awake.f
 rw [show (⟨#[60, 97, 32, 98, 61, 39, 38, 103, 116, 59, 39, 32, 62, 120, 60, 99, 47, 62, 60, 47, 97, 62]⟩ : ByteArray) = exC from rfl, exC_canon, Option.bind_some]
 show (if ouC.toList = _ then some ((0 : Int) == 0) else some false) = some true
 rw [if_pos (by kernel_rfl)]; rfl
end Go.Proofs.YtlhhhlimjajnlaaGreat.P14
end
