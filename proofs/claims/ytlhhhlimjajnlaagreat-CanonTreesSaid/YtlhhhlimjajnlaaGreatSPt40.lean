/- Parts of the proof of canonTrees_holds, kept and merged by a program of mine (wip/tools/slim.py) out of my texts: Q18 -/
import Derived.Test.YtlhhhlimjajnlaaGreatSPt0
import Derived.Test.YtlhhhlimjajnlaaGreatSPt4
import Derived.Test.YtlhhhlimjajnlaaGreatSPt31
import Derived.Test.YtlhhhlimjajnlaaGreatSPt39
section
namespace Go.Proofs.YtlhhhlimjajnlaaGreat.X
end Go.Proofs.YtlhhhlimjajnlaaGreat.X
namespace Go.Proofs.YtlhhhlimjajnlaaGreat.Q
open Go.RowKit Go.Proofs.YtlhhhlimjajnlaaGreatW.PrintWords Go.Proofs.YtlhhhlimjajnlaaGreatW.PrintLast Go.Proofs.YtlhhhlimjajnlaaGreatW.PrintMore
attribute [local go_sem] max2_int min2_int max_two min_two max_three min_three max_four min_four   
open Go.Proofs.YtlhhhlimjajnlaaGreat.X
set_option linter.unusedVariables false
set_option linter.unusedSimpArgs false
def canon_Canon.f (a0 : ByteArray) : Option (ByteArray × Int) := (parser_Parse.f a0).bind fun bt374 => (if bt374.2.2 = 0 then ((canon_Write.f bt374.1 bt374.2.1).bind fun bt382 => (some (bt382.1, bt382.2))) else (some ((⟨#[]⟩ : ByteArray), bt374.2.2)))
set_option maxHeartbeats 8000000 in
set_option maxRecDepth 100000 in
theorem canon_Canon.calls (a0 : ByteArray) (r1 : ByteArray) (r2 : Int) (w : World) (hG : G w) (h : canon_Canon.f a0 = some (r1, r2)) :
 Calls Tryz.prog 22 #[.string a0] w fun e w' => e = .returned (.tuple #[.string r1, .int .i64 r2]) ∧ Below w.heap.size w w' := by
 have hu27 := Tryz.underlying27
 have HB := Aside0.mk (Below.refl w.heap.size w)
 have H : ((parser_Parse.f a0).bind fun bt374 => (if bt374.2.2 = 0 then ((canon_Write.f bt374.1 bt374.2.1).bind fun bt382 => (some (bt382.1, bt382.2))) else (some ((⟨#[]⟩ : ByteArray), bt374.2.2)))) = some (r1, r2) := h
 clear h
 replace H := Option.bind_eq_some_iff.mp H
 obtain ⟨⟨t374, t377, t380⟩, A20, H⟩ := H
 replace H : (if t380 = 0 then ((canon_Write.f t374 t377).bind fun bt382 => (some (bt382.1, bt382.2))) else (some ((⟨#[]⟩ : ByteArray), t380))) = some (r1, r2) := H
 have A2 := Aside0.mk A20
 clear A20
 by_cases c3 : t380 = 0
 ·rw [if_pos c3] at H
  have c3b0 : (t380 == 0) = true := beq_iff_eq.mpr c3
  have c3b1 : (t380 != 0) = false := bne_eq_false_iff_eq.mpr c3
  clear c3
  replace H := Option.bind_eq_some_iff.mp H
  obtain ⟨⟨t382, t383⟩, A40, H⟩ := H
  replace H : (some (t382, t383)) = some (r1, r2) := H
  have A4 := Aside0.mk A40
  clear A40
  simp only [Option.some.injEq, Prod.mk.injEq] at H
  obtain ⟨rfl, rfl⟩ := H
  go_enter Tryz.func22, Tryz.ntmps22
  go_wp2_with (first | ((with_reducible refine gate_callee (f := 12) rfl ?_); refine goesL_ (some 8) rfl rfl Tryz.func12 (by kernel_rfl) rfl #[.string a0] rfl (zz13) ?_; (with_reducible refine (parser_Parse.calls a0 t374 t377 t380 _ (by first | exact hG | exact G.below hG (zz2)) A2.out).mono ?_); rintro e w5 ⟨v375, v378, rfl, ho0, ho1, hb⟩; refine ⟨_, rfl, ?_⟩; have n0_ := Aside0.mk (Kd.R_lower ho0 (below_size (zz2))); have n1_ := Aside0.mk (Kd.R_lower ho1 (below_size (zz2))); have n2_ := Aside0.mk (below_step (zz2) hb); clear HB; have HO376 := n0_; have HO379 := n1_; have HB := n2_; clear n0_ n1_ n2_; (try clear hb); (try clear hb2); (try clear hk); (try clear hi); (try clear ho0); (try clear ho1)) | ((with_reducible refine gate_dst (N := 4) rfl ?_); refine box_event ?hg (N := 4) ?hd (cs := #[.slice none 0 0, .slice none 0 0]) (t := 27) ?hr ?_; (case hd => rfl); (case hg => rfl); (case hr => first | (go_simp; done) | (go_simp; rfl)); intro gb381 hg w6 hbox hb; have n0_ := Aside0.mk (Kd.R_below (by (with_reducible repeat (first | apply Kd.R_alloc | apply Kd.R_drewN | apply Kd.R_drew)); exact HO376.out) hb); have n1_ := Aside0.mk (Kd.R_below (by (with_reducible repeat (first | apply Kd.R_alloc | apply Kd.R_drewN | apply Kd.R_drew)); exact HO379.out) hb); have n2_ := Aside0.mk (below_step (zz2) hb); have n3_ := Aside0.mk (hbox); have n4_ := Aside0.mk ((zz35 : w.heap.size ≤ gb381)); have n5_ := Aside0.mk ((zz35 : w.heap.size ≤ gb381)); clear HO376; clear HO379; clear HB; have HO376 := n0_; have HO379 := n1_; have HB := n2_; have BK381 := n3_; have GW381 := n4_; have GE381 := n5_; clear n0_ n1_ n2_ n3_ n4_ n5_; clear hb hbox hg; obtain ⟨Ao7, co7, eo7⟩ := Kd.R_slice HO376.out; subst eo7; have hcz8_0 : w6.cell? ⟨gb381, 0, none⟩ = some (.slice none 0 0) := (blk_cell BK381.out 0).trans rfl; have hcz8_1 : w6.cell? ⟨gb381, 1, none⟩ = some (.slice none 0 0) := (blk_cell BK381.out 1).trans rfl; have hfz8_0 := blk_frozen BK381.out 0; have hfz8_1 := blk_frozen BK381.out 1; obtain ⟨Ao9, co9, eo9⟩ := Kd.R_slice HO379.out; subst eo9) | ((with_reducible refine gate_callee (f := 17) rfl ?_); refine goesL_ (some 15) rfl rfl Tryz.func17 (by kernel_rfl) rfl #[.agg #[.slice Ao7 t374.length co7, .slice Ao9 t377.length co9]] rfl (zz13) ?_; (with_reducible refine (canon_Write.calls _ _ t374 _ _ t377 t382 t383 _ ?side1 ?side2 ?side3 ?side4 A4.out).mono ?_); (case side1 => refine (Kd.R_reads' (e := 9) (base := w.heap.size) (ok := fun k_ => True) (n := t374.length) (c := co7) ?_).2.2; exact (by (with_reducible repeat (first | apply Kd.R_alloc | apply Kd.R_drewN | apply Kd.R_drew)); exact (Kd.R_mono (Kd.R_far (p := ⟨gb381, 1, none⟩) (Kd.R_far (p := ⟨gb381, 0, none⟩) (Kd.R_types HO376.out BK381.out (by decide)) (fun _ hk => hk.2) (.slice Ao7 t374.length co7)) (fun _ hk => hk.2) (.slice Ao9 t377.length co9)) (fun _ h_ => h_.1)))); (case side2 => exact (Kd.R_reads' HO376.out).2.1); (case side3 => refine (Kd.R_reads' (e := 41) (base := w.heap.size) (ok := fun k_ => True) (n := t377.length) (c := co9) ?_).2.2; exact (by (with_reducible repeat (first | apply Kd.R_alloc | apply Kd.R_drewN | apply Kd.R_drew)); exact (Kd.R_mono (Kd.R_far (p := ⟨gb381, 1, none⟩) (Kd.R_far (p := ⟨gb381, 0, none⟩) (Kd.R_types HO379.out BK381.out (by decide)) (fun _ hk => hk.2) (.slice Ao7 t374.length co7)) (fun _ hk => hk.2) (.slice Ao9 t377.length co9)) (fun _ h_ => h_.1)))); (case side4 => exact (Kd.R_reads' HO379.out).2.1); rintro e w10 ⟨rfl, hb⟩; refine ⟨_, rfl, ?_⟩; have n0_ := Aside0.mk (Kd.R_below (by (with_reducible repeat (first | apply Kd.R_alloc | apply Kd.R_drewN | apply Kd.R_drew)); exact (Kd.R_mono (Kd.R_far (p := ⟨gb381, 1, none⟩) (Kd.R_far (p := ⟨gb381, 0, none⟩) (Kd.R_types HO376.out BK381.out (by decide)) (fun _ hk => hk.2) (.slice Ao7 t374.length co7)) (fun _ hk => hk.2) (.slice Ao9 t377.length co9)) (fun _ h_ => h_.1))) hb); have n1_ := Aside0.mk (Kd.R_below (by (with_reducible repeat (first | apply Kd.R_alloc | apply Kd.R_drewN | apply Kd.R_drew)); exact (Kd.R_mono (Kd.R_far (p := ⟨gb381, 1, none⟩) (Kd.R_far (p := ⟨gb381, 0, none⟩) (Kd.R_types HO379.out BK381.out (by decide)) (fun _ hk => hk.2) (.slice Ao7 t374.length co7)) (fun _ hk => hk.2) (.slice Ao9 t377.length co9)) (fun _ h_ => h_.1))) hb); have n2_ := Aside0.mk (blk_below (g := gb381) (o := .cells #[.slice Ao7 t374.length co7, .slice Ao9 t377.length co9] 27 (0, 0)) (by (with_reducible repeat (first | refine blk_drewN ?_ _ | refine blk_drew ?_ | refine blk_alloc ?_ _)); refine blk_put (cs := #[.slice Ao7 t374.length co7, .slice none 0 0]) ?_ 1 _ rfl; (with_reducible repeat (first | refine blk_drewN ?_ _ | refine blk_drew ?_ | refine blk_alloc ?_ _)); refine blk_put (cs := #[.slice none 0 0, .slice none 0 0]) ?_ 0 _ rfl; (with_reducible repeat (first | refine blk_drewN ?_ _ | refine blk_drew ?_ | refine blk_alloc ?_ _)); exact BK381.out) hb); have n3_ := Aside0.mk (below_step (zz37) hb); clear HO376; clear HO379; clear BK381; clear HB; have HO376 := n0_; have HO379 := n1_; have BK381 := n2_; have HB := n3_; clear n0_ n1_ n2_ n3_; (try clear hb); (try clear hb2); (try clear hk); (try clear hi)))
  go_ret2
  exact ⟨zz11, zz37⟩
 ·rw [if_neg c3] at H
  have c3b0 : (t380 == 0) = false := beq_eq_false_iff_ne.mpr c3
  have c3b1 : (t380 != 0) = true := bne_iff_ne.mpr c3
  simp only [Option.some.injEq, Prod.mk.injEq] at H
  obtain ⟨rfl, rfl⟩ := H
  go_enter Tryz.func22, Tryz.ntmps22
  go_wp2_with (first | ((with_reducible refine gate_callee (f := 12) rfl ?_); refine goesL_ (some 8) rfl rfl Tryz.func12 (by kernel_rfl) rfl #[.string a0] rfl (zz13) ?_; (with_reducible refine (parser_Parse.calls a0 t374 t377 t380 _ (by first | exact hG | exact G.below hG (zz2)) A2.out).mono ?_); rintro e w11 ⟨v375, v378, rfl, ho0, ho1, hb⟩; refine ⟨_, rfl, ?_⟩; have n0_ := Aside0.mk (Kd.R_lower ho0 (below_size (zz2))); have n1_ := Aside0.mk (Kd.R_lower ho1 (below_size (zz2))); have n2_ := Aside0.mk (below_step (zz2) hb); clear HB; have HO376 := n0_; have HO379 := n1_; have HB := n2_; clear n0_ n1_ n2_; (try clear hb); (try clear hb2); (try clear hk); (try clear hi); (try clear ho0); (try clear ho1)) | ((with_reducible refine gate_dst (N := 4) rfl ?_); refine box_event ?hg (N := 4) ?hd (cs := #[.slice none 0 0, .slice none 0 0]) (t := 27) ?hr ?_; (case hd => rfl); (case hg => rfl); (case hr => first | (go_simp; done) | (go_simp; rfl)); intro gb381 hg w12 hbox hb; have n0_ := Aside0.mk (Kd.R_below (by (with_reducible repeat (first | apply Kd.R_alloc | apply Kd.R_drewN | apply Kd.R_drew)); exact HO376.out) hb); have n1_ := Aside0.mk (Kd.R_below (by (with_reducible repeat (first | apply Kd.R_alloc | apply Kd.R_drewN | apply Kd.R_drew)); exact HO379.out) hb); have n2_ := Aside0.mk (below_step (zz2) hb); have n3_ := Aside0.mk (hbox); have n4_ := Aside0.mk ((zz35 : w.heap.size ≤ gb381)); have n5_ := Aside0.mk ((zz35 : w.heap.size ≤ gb381)); clear HO376; clear HO379; clear HB; have HO376 := n0_; have HO379 := n1_; have HB := n2_; have BK381 := n3_; have GW381 := n4_; have GE381 := n5_; clear n0_ n1_ n2_ n3_ n4_ n5_; clear hb hbox hg; obtain ⟨Ao13, co13, eo13⟩ := Kd.R_slice HO376.out; subst eo13; have hcz14_0 : w12.cell? ⟨gb381, 0, none⟩ = some (.slice none 0 0) := (blk_cell BK381.out 0).trans rfl; have hcz14_1 : w12.cell? ⟨gb381, 1, none⟩ = some (.slice none 0 0) := (blk_cell BK381.out 1).trans rfl; have hfz14_0 := blk_frozen BK381.out 0; have hfz14_1 := blk_frozen BK381.out 1; obtain ⟨Ao15, co15, eo15⟩ := Kd.R_slice HO379.out; subst eo15))
  go_ret2
  exact ⟨zz11, zz37⟩
end Go.Proofs.YtlhhhlimjajnlaaGreat.Q
end
