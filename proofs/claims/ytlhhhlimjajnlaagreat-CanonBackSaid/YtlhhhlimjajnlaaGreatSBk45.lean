/- Parts of the proof of canonBack_holds, kept and merged by a program of mine (wip/tools/slim.py) out of my texts: BackW -/
import Derived.Test.YtlhhhlimjajnlaaGreatSBk34
import Derived.Test.YtlhhhlimjajnlaaGreatSBk36
import Derived.Test.YtlhhhlimjajnlaaGreatSBk37
import Derived.Test.YtlhhhlimjajnlaaGreatSBk41
import Derived.Test.YtlhhhlimjajnlaaGreatSBk27
import Derived.Test.YtlhhhlimjajnlaaGreatSBk44
section
set_option linter.unusedVariables false
set_option linter.unusedSimpArgs false
namespace Go.Proofs.YtlhhhlimjajnlaaGreat.X
open Go.RowKit Go.Maps Go.Proofs.YtlhhhlimjajnlaaGreat Go.Proofs.YtlhhhlimjajnlaaGreat.Q Go.Proofs.YtlhhhlimjajnlaaGreat.P11 Go.Proofs.YtlhhhlimjajnlaaGreat.P14 Go.Proofs.YtlhhhlimjajnlaaGreat.P12 Go.Proofs.YtlhhhlimjajnlaaGreat.R13 Go.Proofs.YtlhhhlimjajnlaaGreatW.PrintWords Go.Proofs.YtlhhhlimjajnlaaGreatW.PrintLast Go.Proofs.YtlhhhlimjajnlaaGreatW.PrintMore
attribute [local go_sem] max2_int min2_int max_two min_two   
theorem back_in {N : List ByteArray} {D : List Nod} (hn : ∀ x, x ∈ N → x.size ≤ 20) (hd1 : D.length ≤ 30) (hd : ∀ x, x ∈ D → x.f3.size ≤ 20) : ∃ WS WE, (∀ A c A' c' W, Kd.C Kd.string W A N.length N → N.length ≤ c → Kd.C k41 W A' D.length D → D.length ≤ c' → Calls Tryz.prog 17 #[.agg #[.slice A N.length c, .slice A' D.length c']] W fun e w' => e = .returned (.tuple #[.string WS, .int .i64 WE]) ∧ Below W.heap.size W w') ∧
 (WS = ⟨#[]⟩ ∧ WE = 1 ∨ WE = 0 ∧ (∀ W, Calls Tryz.prog 13 #[.string WS] W fun e w' => ∃ v0 v1 : Value, e = .returned (.tuple #[.agg #[v0, v1], .int .i64 0]) ∧ Kd.R Kd.string 9 w' W.heap.size (fun _ => True) v0 N ∧ Kd.R k41 41 w' W.heap.size (fun _ => True) v1 D ∧ Below W.heap.size W w') ∧
  (∀ W, G W → Calls Tryz.prog 22 #[.string WS] W fun e w' => e = .returned (.tuple #[.string WS, .int .i64 0]) ∧ Below W.heap.size W w')) := by
 have hw : smallW N D = true := by
  unfold smallW
  rw [Bool.and_eq_true, List.all_eq_true, List.all_eq_true]
  exact ⟨fun x hx => decide_eq_true (Nat.le_trans (hd x hx) (by omega)), fun x hx => decide_eq_true (Nat.le_trans (hn x hx) (by omega))⟩
 have hcw : canon_Write.f N D = some ((writeV N D).1, (writeV N D).2) := by rw [canon_Write.f, if_pos hw]
 refine ⟨(writeV N D).1, (writeV N D).2, fun A c A' c' W a1 a2 a3 a4 => canon_Write.calls A c N A' c' D _ _ W a1 a2 a3 a4 hcw, ?_⟩
 rcases back_facts hn hd1 hd with h | ⟨s, h, hp, h1, h2, h3⟩
 ·rw [h]; exact .inl ⟨rfl, rfl⟩
 ·rw [h]
  refine .inr ⟨rfl, fun W => ?_, fun W hG => canon_Canon.calls s s 0 W hG h3⟩
  have := refparse_c s h1 h2 W
  unfold PP at this
  rw [hp] at this
  exact this
theorem same_in (N : List ByteArray) (D : List Nod) (hn : N.length ≤ 12) (hd : D.length ≤ 30) :
 (∀ A c A' c' B d B' d' W, Kd.C Kd.string W A N.length N → N.length ≤ c → Kd.C k41 W A' D.length D → D.length ≤ c' → Kd.C Kd.string W B N.length N → N.length ≤ d → Kd.C k41 W B' D.length D → D.length ≤ d' → Calls Tryz.prog 14 #[.agg #[.slice A N.length c, .slice A' D.length c'], .agg #[.slice B N.length d, .slice B' D.length d']] W fun e w' => e = .returned (.bool true) ∧ Below W.heap.size W w') ∧
 (∀ A c A' c' B d B' d' W, Kd.C Kd.string W A N.length N → N.length ≤ c → Kd.C k41 W A' D.length D → D.length ≤ c' → Kd.C Kd.string W B N.length N → N.length ≤ d → Kd.C k41 W B' D.length D → D.length ≤ d' → Calls Tryz.prog 24 #[.agg #[.slice A N.length c, .slice A' D.length c'], .agg #[.slice B N.length d, .slice B' D.length d']] W fun e w' => e = .returned (.bool true) ∧ Below W.heap.size W w') := by
 exact ⟨fun A c A' c' B d B' d' W a1 a2 a3 a4 b1 b2 b3 b4 => rsame_c rfl (by omega) rfl (by omega) a1 a3 b1 b3,
  fun A c A' c' B d B' d' W a1 a2 a3 a4 b1 b2 b3 b4 => csame_c rfl (by omega) rfl (by omega) a1 a3 b1 b3⟩
set_option maxHeartbeats 8000000 in
set_option maxRecDepth 100000 in
theorem canonBack_c {N : List ByteArray} {D : List Nod} {w : World} (hG : G w) {AN AD : Option Addr} {cN cD : Nat} (hN : Kd.C Kd.string w AN N.length N) (hcN : N.length ≤ cN) (hD : Kd.C k41 w AD D.length D) (hcD : D.length ≤ cD) :
 Calls Tryz.prog 8 #[.agg #[.slice AN N.length cN, .slice AD D.length cD]] w fun e w' => e = .returned (.bool true) ∧ Below w.heap.size w w' := by
 obtain ⟨⟨hn, hn2⟩, hd, hd2⟩ := small_facts N D
 have HSM := Lib.hid (fun W (hW : Below w.heap.size w W) => small_c (c := cN) (d := cD) rfl rfl (Kd.C_below hN hW) (Kd.C_below hD hW))
 obtain ⟨n, hnn⟩ : ∃ n, smallN N = n := ⟨_, rfl⟩
 obtain ⟨d, hdd⟩ : ∃ d, smallD D = d := ⟨_, rfl⟩
 rw [hnn, hdd] at HSM
 rw [hnn] at hn hn2
 rw [hdd] at hd hd2
 obtain ⟨WS, WE, hcw, hcase⟩ := back_in hn2 hd hd2
 obtain ⟨hrs, hcs⟩ := same_in n d hn hd
 obtain ⟨ln, hln⟩ : ∃ ln, n.length = ln := ⟨_, rfl⟩
 obtain ⟨ld, hld⟩ : ∃ ld, d.length = ld := ⟨_, rfl⟩
 rw [hln, hld] at hcw hrs hcs
 have HCW := Lib.hid hcw
 have HRS := Lib.hid hrs
 have HCS := Lib.hid hcs
 have HCASE := Lib.hid hcase
 have HG := Lib.hid hG
 clear hG hcw hrs hcs hcase hn2 hd2 hn hd hnn hdd
 generalize N.length = NL at HSM ⊢
 generalize D.length = DL at HSM ⊢
 go_enter Tryz.func8, Tryz.ntmps8
 go_upto_region 3 with (first | (go_at_call 15; refine (L4_awake.calls true _ (G.below HG.out (below_alloc (Below.refl _ _) _)) awake14).mono ?_; rintro e w1 ⟨rfl, hb1⟩; have hbx := blk_below (blk_new w (.cells #[.slice AN NL cN, .slice AD DL cD] 27)) hb1; have u0 := (blk_cell hbx 0).trans (show _ = some (Value.slice AN NL cN) from rfl); have u1 := (blk_cell hbx 1).trans (show _ = some (Value.slice AD DL cD) from rfl); have HBX := Lib.hid hbx; have HB1 := Lib.hid (below_step (below_alloc (Below.refl w.heap.size w) _) hb1); clear hb1 hbx) | (go_at_call 16; refine (HSM.out _ HB1.out).mono ?_; rintro e w2 ⟨v0, v1, rfl, ho0, ho1, hb2⟩; obtain ⟨A1, c1, rfl⟩ := Kd.R_slice ho0; obtain ⟨A2, c2, rfl⟩ := Kd.R_slice ho1; have HO0 := Lib.hid ho0; have HO1 := Lib.hid ho1; have hbx := blk_below HBX.out hb2; have u2 := (blk_cell hbx 0).trans (show _ = some (Value.slice AN NL cN) from rfl); have u3 := (blk_cell hbx 1).trans (show _ = some (Value.slice AD DL cD) from rfl); have u4 := blk_frozen hbx 0; have u5 := blk_frozen hbx 1; have HBX2 := Lib.hid hbx; have HB2 := Lib.hid (below_step HB1.out hb2); clear hb2 hbx ho0 ho1))
 have hge : w.heap.size ≤ w.heap.size := Nat.le_refl _
 have hbx := blk_set (blk_set HBX2.out 0 (.slice A1 ln c1)) 1 (.slice A2 ld c2)
 have hr0 := Kd.R_far (p := ⟨w.heap.size, 1, none⟩) (Kd.R_far (p := ⟨w.heap.size, 0, none⟩) (Kd.R_types HO0.out HBX2.out (by decide)) (fun _ hk => hk.2) (.slice A1 ln c1)) (fun _ hk => hk.2) (.slice A2 ld c2)
 have hr1 := Kd.R_far (p := ⟨w.heap.size, 1, none⟩) (Kd.R_far (p := ⟨w.heap.size, 0, none⟩) (Kd.R_types HO1.out HBX2.out (by decide)) (fun _ hk => hk.2) (.slice A1 ln c1)) (fun _ hk => hk.2) (.slice A2 ld c2)
 have hb3 := (HB2.out.setCell (p := ⟨w.heap.size, 0, none⟩) hge (.slice A1 ln c1)).setCell (p := ⟨w.heap.size, 1, none⟩) hge (.slice A2 ld c2)
 obtain ⟨-, l1, r1⟩ := Kd.R_reads' hr0
 obtain ⟨-, l2, r2⟩ := Kd.R_reads' hr1
 rw [hln] at r1 l1
 rw [hld] at r2 l2
 clear hr0 hr1
 generalize ((w2.setCell ⟨w.heap.size, 0, none⟩ (.slice A1 ln c1)).setCell ⟨w.heap.size, 1, none⟩ (.slice A2 ld c2)) = w3 at hbx r1 r2 hb3 ⊢
 have HBX3 := Lib.hid (show w3.heap[w.heap.size]? = some (.cells #[.slice A1 ln c1, .slice A2 ld c2] 27 (0, 0)) from hbx)
 have HR1 := Lib.hid r1
 have HR2 := Lib.hid r2
 have HL1 := Lib.hid l1
 have HL2 := Lib.hid l2
 have HB3 := Lib.hid hb3
 have x0 := (blk_cell HBX3.out 0).trans (show _ = some (Value.slice A1 ln c1) from rfl)
 have x1 := (blk_cell HBX3.out 1).trans (show _ = some (Value.slice A2 ld c2) from rfl)
 clear hbx r1 r2 l1 l2 hb3 u0 u1 u2 u3 u4 u5 HO0 HO1 HBX HBX2
 go_upto_region 4 with (go_at_call 17; refine (HCW.out A1 c1 A2 c2 _ HR1.out HL1.out HR2.out HL2.out).mono ?_; rintro e w4 ⟨rfl, hb4⟩; have HBX4 := Lib.hid (blk_below HBX3.out hb4); have HB4 := Lib.hid (below_step HB3.out hb4); have HR3 := Lib.hid (Kd.C_below HR1.out hb4); have HR4 := Lib.hid (Kd.C_below HR2.out hb4); clear hb4)
 rcases HCASE.out with ⟨rfl, rfl⟩ | ⟨rfl, hpa, hca⟩
 ·clear HCASE
  go_wp2
  go_ret
  exact ⟨rfl, by repeat (with_reducible first | exact HB4.out | apply pw_below_drewN | apply below_drew)⟩
 have HPA := Lib.hid hpa
 have HCA := Lib.hid hca
 clear HCASE hpa hca x0 x1
 go_upto_region 7 with (go_at_call 13; refine (HPA.out _).mono ?_; rintro e w5 ⟨v3, v4, rfl, ho0, ho1, hb5⟩; obtain ⟨A3, c3, e3⟩ := Kd.R_slice ho0; obtain ⟨A4, c4, e4⟩ := Kd.R_slice ho1; rw [hln] at e3; rw [hld] at e4; subst e3; subst e4; have HO0 := Lib.hid ho0; have HO1 := Lib.hid ho1; have HBX5 := Lib.hid (blk_below HBX4.out hb5); have HB5 := Lib.hid (below_step HB4.out hb5); have HR5 := Lib.hid (Kd.C_below HR3.out hb5); have HR6 := Lib.hid (Kd.C_below HR4.out hb5); have HSZ := Lib.hid hb5.size; clear hb5 ho0 ho1)
 have hb6 := below_alloc (Below.refl w5.heap.size w5) (.cells #[.slice A3 ln c3, .slice A4 ld c4] 27)
 have hk2 := blk_new w5 (.cells #[.slice A3 ln c3, .slice A4 ld c4] 27)
 have hr0 := Kd.R_reads' (Kd.R_alloc HO0.out (.cells #[.slice A3 ln c3, .slice A4 ld c4] 27))
 have hr1 := Kd.R_reads' (Kd.R_alloc HO1.out (.cells #[.slice A3 ln c3, .slice A4 ld c4] 27))
 rw [hln] at hr0
 rw [hld] at hr1
 generalize (w5.alloc (.cells #[.slice A3 ln c3, .slice A4 ld c4] 27)) = w6 at hb6 hk2 hr0 hr1 ⊢
 obtain ⟨g6, hg6⟩ : ∃ g6, w5.heap.size = g6 := ⟨_, rfl⟩
 have HBX6 := Lib.hid (blk_below HBX5.out hb6)
 have HB6 := Lib.hid (below_step HB5.out hb6)
 have HK6 := Lib.hid (show w6.heap[g6]? = some (.cells #[.slice A3 ln c3, .slice A4 ld c4] 27 (0, 0)) from by rw [← hg6]; exact hk2)
 have S0 := Lib.hid (Kd.C_below HR5.out hb6)
 have S1 := Lib.hid (Kd.C_below HR6.out hb6)
 have S2 := Lib.hid hr0.2.2
 have S3 := Lib.hid hr1.2.2
 have L3 := Lib.hid hr0.2.1
 have L4 := Lib.hid hr1.2.1
 rw [hg6]
 clear hb6 hk2 hr0 hr1 hg6
 have CX := Lib.hid (fun (W : World) (hb : Below w6.heap.size w6 W) => (⟨(blk_cell (blk_below HBX6.out hb) 0).trans (show _ = some (Value.slice A1 ln c1) from rfl), (blk_cell (blk_below HBX6.out hb) 1).trans (show _ = some (Value.slice A2 ld c2) from rfl), (blk_cell (blk_below HK6.out hb) 0).trans (show _ = some (Value.slice A3 ln c3) from rfl), (blk_cell (blk_below HK6.out hb) 1).trans (show _ = some (Value.slice A4 ld c4) from rfl)⟩ : W.cell? ⟨w.heap.size, 0, none⟩ = some (.slice A1 ln c1) ∧ W.cell? ⟨w.heap.size, 1, none⟩ = some (.slice A2 ld c2) ∧ W.cell? ⟨g6, 0, none⟩ = some (.slice A3 ln c3) ∧ W.cell? ⟨g6, 1, none⟩ = some (.slice A4 ld c4)))
 obtain ⟨x0, x1, x2, x3⟩ := CX.out w6 (Below.refl _ _)
 go_upto_region 9 with (first | (go_at_call 14; refine (HRS.out A3 c3 A4 c4 A1 c1 A2 c2 _ S2.out L3.out S3.out L4.out S0.out HL1.out S1.out HL2.out).mono ?_; rintro e w7 ⟨rfl, hb7⟩; have HB7 := Lib.hid hb7; have HT7 := Lib.hid (below_step HB6.out hb7); clear hb7) | (go_at_call 22; refine (HCA.out _ (G.below HG.out HT7.out)).mono ?_; rintro e w8 ⟨rfl, hb8⟩; have HB8 := Lib.hid (below_step HB7.out hb8); have HT8 := Lib.hid (below_step HT7.out hb8); obtain ⟨z0, z1, z2, z3⟩ := CX.out _ HB8.out; clear hb8))
 clear x0 x1 x2 x3
 go_wp2_with (go_at_call 24; refine (HCS.out A3 c3 A4 c4 A1 c1 A2 c2 _ (Kd.C_below S2.out HB8.out) L3.out (Kd.C_below S3.out HB8.out) L4.out (Kd.C_below S0.out HB8.out) HL1.out (Kd.C_below S1.out HB8.out) HL2.out).mono ?_; rintro e w9 ⟨rfl, hb9⟩; have HB9 := Lib.hid (below_step HB8.out hb9); clear hb9)
 go_ret
 exact ⟨rfl, by repeat (with_reducible first | exact below_step HB6.out HB9.out | apply pw_below_drewN | apply below_drew)⟩
end Go.Proofs.YtlhhhlimjajnlaaGreat.X
end
