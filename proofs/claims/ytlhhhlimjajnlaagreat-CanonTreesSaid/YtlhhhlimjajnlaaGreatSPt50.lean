/- Parts of the proof of canonTrees_holds, kept and merged by a program of mine (wip/tools/slim.py) out of my texts: TreesW -/
import Derived.Test.YtlhhhlimjajnlaaGreatSPt41
import Derived.Test.YtlhhhlimjajnlaaGreatSPt42
import Derived.Test.YtlhhhlimjajnlaaGreatSPt44
import Derived.Test.YtlhhhlimjajnlaaGreatSPt31
import Derived.Test.YtlhhhlimjajnlaaGreatSPt30
import Derived.Test.YtlhhhlimjajnlaaGreatSPt49
section
set_option linter.unusedVariables false
set_option linter.unusedSimpArgs false
namespace Go.Proofs.YtlhhhlimjajnlaaGreat.X
open Go.RowKit Go.Maps Go.Proofs.YtlhhhlimjajnlaaGreat Go.Proofs.YtlhhhlimjajnlaaGreat.Q Go.Proofs.YtlhhhlimjajnlaaGreat.P11 Go.Proofs.YtlhhhlimjajnlaaGreat.P14 Go.Proofs.YtlhhhlimjajnlaaGreatW.PrintWords Go.Proofs.YtlhhhlimjajnlaaGreatW.PrintLast Go.Proofs.YtlhhhlimjajnlaaGreatW.PrintMore
attribute [local go_sem] max2_int min2_int max_two min_two   
set_option maxHeartbeats 8000000 in
set_option maxRecDepth 100000 in
theorem canonTrees_c {N : List ByteArray} {D : List Nod} {w : World} (hG : G w) {AN AD : Option Addr} {cN cD : Nat} (hN : Kd.C Kd.string w AN N.length N) (hcN : N.length ≤ cN) (hD : Kd.C k41 w AD D.length D) (hcD : D.length ≤ cD) :
 Calls Tryz.prog 4 #[.agg #[.slice AN N.length cN, .slice AD D.length cD]] w fun e w' => e = .returned (.bool true) ∧ Below w.heap.size w w' := by
 obtain ⟨n, d, ⟨K1, h1⟩, ⟨hn, hn2⟩, hd, hd2⟩ := small14 N D
 have hsm := h1 K1 (Nat.le_refl _)
 have HSM := Lib.hid (fun W (hW : Below w.heap.size w W) => L4_small.calls K1 AN cN N AD cD D n d W (Kd.C_below hN hW) hcN (Kd.C_below hD hW) hcD hsm)
 have hw : smallW n d = true := by
  unfold smallW
  rw [Bool.and_eq_true, List.all_eq_true, List.all_eq_true]
  exact ⟨fun x hx => decide_eq_true (Nat.le_trans (hd2 x hx) (by omega)), fun x hx => decide_eq_true (Nat.le_trans (hn2 x hx) (by omega))⟩
 have hc : smallC n d = true := by
  unfold smallC
  rw [Bool.and_eq_true, List.all_eq_true, List.all_eq_true]
  exact ⟨fun x hx => decide_eq_true (Nat.le_trans (hd2 x hx) (by omega)), fun x hx => decide_eq_true (Nat.le_trans (hn2 x hx) (by omega))⟩
 have hs1 : ∀ x, x ∈ n → x.size ≤ 1000000000 := fun x hx => Nat.le_trans (hn2 x hx) (by omega)
 have hs2 : ∀ x, x ∈ d → x.f3.size ≤ 1000000000 := fun x hx => Nat.le_trans (hd2 x hx) (by omega)
 have hcw : canon_Write.f n d = some ((writeV n d).1, (writeV n d).2) := by rw [canon_Write.f, if_pos hw]
 have hcc : canon_Check.f n d = some (checkV n d) := by rw [canon_Check.f, if_pos hc]
 obtain ⟨ln, hln⟩ : ∃ ln, n.length = ln := ⟨_, rfl⟩
 obtain ⟨ld, hld⟩ : ∃ ld, d.length = ld := ⟨_, rfl⟩
 have HCW := Lib.hid (fun A c A' c' W (a1 : Kd.C Kd.string W A n.length n) (a2 : n.length ≤ c) (a3 : Kd.C k41 W A' d.length d) (a4 : d.length ≤ c') => canon_Write.calls A c n A' c' d _ _ W a1 a2 a3 a4 hcw)
 have HCC := Lib.hid (fun A c A' c' W (a1 : Kd.C Kd.string W A n.length n) (a2 : n.length ≤ c) (a3 : Kd.C k41 W A' d.length d) (a4 : d.length ≤ c') => canon_Check.calls A c n A' c' d _ W a1 a2 a3 a4 hcc)
 have HRW := Lib.hid (fun A c A' c' W (a1 : Kd.C Kd.string W A n.length n) (a2 : n.length ≤ c) (a3 : Kd.C k41 W A' d.length d) (a4 : d.length ≤ c') => refwrite_c a1 a2 a3 a4 hs1 hs2)
 have HRC := Lib.hid (fun A c A' c' W (a1 : Kd.C Kd.string W A n.length n) (a2 : n.length ≤ c) (a3 : Kd.C k41 W A' d.length d) (a4 : d.length ≤ c') => refcheck_c a1 a2 a3 a4 hs1 hs2)
 obtain ⟨WS, hWS⟩ : ∃ WS, (writeV n d).1 = WS := ⟨_, rfl⟩
 obtain ⟨WE, hWE⟩ : ∃ WE, (writeV n d).2 = WE := ⟨_, rfl⟩
 obtain ⟨CE, hCE⟩ : ∃ CE, checkV n d = CE := ⟨_, rfl⟩
 rw [hWS, hWE, hln, hld] at HCW HRW
 rw [hCE, hln, hld] at HCC HRC
 have HG := Lib.hid hG
 clear hG hsm hw hc hs1 hs2 hcw hcc hWS hWE hCE h1 hn2 hd2 hn hd
 generalize N.length = NL at HSM ⊢
 generalize D.length = DL at HSM ⊢
 go_enter Tryz.func4, Tryz.ntmps4
 go_upto_region 3 with (first | (go_at_call 15; refine (L4_awake.calls true _ (G.below HG.out (below_alloc (Below.refl _ _) _)) awake14).mono ?_; rintro e w1 ⟨rfl, hb1⟩; have hbx := blk_below (blk_new w (.cells #[.slice AN NL cN, .slice AD DL cD] 27)) hb1; have u0 := (blk_cell hbx 0).trans (show _ = some (Value.slice AN NL cN) from rfl); have u1 := (blk_cell hbx 1).trans (show _ = some (Value.slice AD DL cD) from rfl); have HBX := Lib.hid hbx; have HB1 := Lib.hid (below_step (below_alloc (Below.refl w.heap.size w) _) hb1); clear hb1 hbx) | (go_at_call 16; refine (HSM.out _ HB1.out).mono ?_; rintro e w2 ⟨v0, v1, rfl, ho0, ho1, hb2⟩; obtain ⟨A1, c1, rfl⟩ := Kd.R_slice ho0; obtain ⟨A2, c2, rfl⟩ := Kd.R_slice ho1; have HO0 := Lib.hid ho0; have HO1 := Lib.hid ho1; have hbx := blk_below HBX.out hb2; have u2 := (blk_cell hbx 0).trans (show _ = some (Value.slice AN NL cN) from rfl); have u3 := (blk_cell hbx 1).trans (show _ = some (Value.slice AD DL cD) from rfl); have u4 := blk_frozen hbx 0; have u5 := blk_frozen hbx 1; have HBX2 := Lib.hid hbx; have HB2 := Lib.hid (below_step HB1.out hb2); clear hb2 hbx ho0 ho1))
 have hge : w.heap.size ≤ w.heap.size := Nat.le_refl _
 have hbx := blk_set (blk_set HBX2.out 0 (.slice A1 ln c1)) 1 (.slice A2 ld c2)
 have hr0 := Kd.R_far (p := ⟨w.heap.size, 1, none⟩) (Kd.R_far (p := ⟨w.heap.size, 0, none⟩) (Kd.R_types HO0.out HBX2.out (by decide)) (fun _ hk => hk.2) (.slice A1 ln c1)) (fun _ hk => hk.2) (.slice A2 ld c2)
 have hr1 := Kd.R_far (p := ⟨w.heap.size, 1, none⟩) (Kd.R_far (p := ⟨w.heap.size, 0, none⟩) (Kd.R_types HO1.out HBX2.out (by decide)) (fun _ hk => hk.2) (.slice A1 ln c1)) (fun _ hk => hk.2) (.slice A2 ld c2)
 have hb3 := (HB2.out.setCell (p := ⟨w.heap.size, 0, none⟩) hge (.slice A1 ln c1)).setCell (p := ⟨w.heap.size, 1, none⟩) hge (.slice A2 ld c2)
 obtain ⟨-, l1, r1⟩ := Kd.R_reads' hr0
 obtain ⟨-, l2, r2⟩ := Kd.R_reads' hr1
 rw [hln] at r1 l1
 rw [hld] at r2 l2
 clear hr0 hr1
 generalize ((w2.setCell ⟨w.heap.size, 0, none⟩ (.slice A1 ln c1)).setCell ⟨w.heap.size, 1, none⟩ (.slice A2 ld c2)) = w3 at hbx r1 r2 hb3 ⊢
 have HBX3 := Lib.hid (show w3.heap[w.heap.size]? = some (.cells #[.slice A1 ln c1, .slice A2 ld c2] 27 (0, 0)) from hbx)
 have HR1 := Lib.hid r1
 have HR2 := Lib.hid r2
 have HL1 := Lib.hid l1
 have HL2 := Lib.hid l2
 have HB3 := Lib.hid hb3
 have x0 := (blk_cell HBX3.out 0).trans (show _ = some (Value.slice A1 ln c1) from rfl)
 have x1 := (blk_cell HBX3.out 1).trans (show _ = some (Value.slice A2 ld c2) from rfl)
 clear hbx r1 r2 l1 l2 hb3 u0 u1 u2 u3 u4 u5 HO0 HO1 HBX HBX2
 go_upto_region 5 with (first | (go_at_call 17; refine (HCW.out A1 c1 A2 c2 _ HR1.out HL1.out HR2.out HL2.out).mono ?_; rintro e w4 ⟨rfl, hb4⟩; have HB4 := Lib.hid hb4; have y0 := (blk_cell (blk_below HBX3.out HB4.out) 0).trans (show _ = some (Value.slice A1 ln c1) from rfl); have y1 := (blk_cell (blk_below HBX3.out HB4.out) 1).trans (show _ = some (Value.slice A2 ld c2) from rfl); clear hb4) | (go_at_call 18; refine (HRW.out A1 c1 A2 c2 _ (Kd.C_below HR1.out HB4.out) HL1.out (Kd.C_below HR2.out HB4.out) HL2.out).mono ?_; rintro e w5 ⟨rfl, hb5⟩; have HB5 := Lib.hid (below_step HB4.out hb5); have z0 := (blk_cell (blk_below HBX3.out HB5.out) 0).trans (show _ = some (Value.slice A1 ln c1) from rfl); have z1 := (blk_cell (blk_below HBX3.out HB5.out) 1).trans (show _ = some (Value.slice A2 ld c2) from rfl); clear hb5))
 clear x0 x1 y0 y1
 go_region_held3 (fun W => W.cell? ⟨w.heap.size, 0, none⟩ = some (.slice A1 ln c1) ∧ W.cell? ⟨w.heap.size, 1, none⟩ = some (.slice A2 ld c2)) (first | exact ⟨by assumption, by assumption⟩ | go_keep) (first | (go_at_call 19; refine (HCC.out A1 c1 A2 c2 _ (Kd.C_below HR1.out (by repeat (with_reducible first | exact HB5.out | apply pw_below_drewN | apply below_drew))) HL1.out (Kd.C_below HR2.out (by repeat (with_reducible first | exact HB5.out | apply pw_below_drewN | apply below_drew))) HL2.out).mono ?_; rintro e w6 ⟨rfl, hb6⟩; have HB6 := Lib.hid (below_step (show Below w3.heap.size w3 _ from (by repeat (with_reducible first | exact HB5.out | apply pw_below_drewN | apply below_drew))) hb6); have s0 := (blk_cell (blk_below HBX3.out HB6.out) 0).trans (show _ = some (Value.slice A1 ln c1) from rfl); have s1 := (blk_cell (blk_below HBX3.out HB6.out) 1).trans (show _ = some (Value.slice A2 ld c2) from rfl); clear hb6) | (go_at_call 20; refine (HRC.out A1 c1 A2 c2 _ (Kd.C_below HR1.out (by repeat (with_reducible first | exact HB6.out | apply pw_below_drewN | apply below_drew))) HL1.out (Kd.C_below HR2.out (by repeat (with_reducible first | exact HB6.out | apply pw_below_drewN | apply below_drew))) HL2.out).mono ?_; rintro e w7 ⟨rfl, hb7⟩; have HB7 := Lib.hid (below_step (show Below w3.heap.size w3 _ from (by repeat (with_reducible first | exact HB6.out | apply pw_below_drewN | apply below_drew))) hb7); have q0 := (blk_cell (blk_below HBX3.out HB7.out) 0).trans (show _ = some (Value.slice A1 ln c1) from rfl); have q1 := (blk_cell (blk_below HBX3.out HB7.out) 1).trans (show _ = some (Value.slice A2 ld c2) from rfl); clear hb7))
 go_wp2
 go_ret
 exact ⟨rfl, by repeat (with_reducible first | exact below_step HB3.out HB7.out | apply pw_below_drewN | apply below_drew)⟩
end Go.Proofs.YtlhhhlimjajnlaaGreat.X
end
