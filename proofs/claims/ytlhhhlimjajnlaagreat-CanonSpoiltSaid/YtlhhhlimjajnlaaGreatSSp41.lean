/- Parts of the proof of canonSpoilt_holds, kept and merged by a program of mine (wip/tools/slim.py) out of my texts: SpoW -/
import Derived.Test.YtlhhhlimjajnlaaGreatSSp0
import Derived.StillTailTactics
import Derived.Deep.QuietTactic
import Derived.Test.YtlhhhlimjajnlaaGreatSSp39
import Derived.Test.YtlhhhlimjajnlaaGreatSSp12
import Derived.Test.YtlhhhlimjajnlaaGreatSSp40
section
set_option linter.unusedVariables false
set_option linter.unusedSimpArgs false
namespace Go.Proofs.YtlhhhlimjajnlaaGreat.X
open Go.RowKit Go.Maps Go.Proofs.YtlhhhlimjajnlaaGreat Go.Proofs.YtlhhhlimjajnlaaGreat.Q Go.Proofs.YtlhhhlimjajnlaaGreat.P11 Go.Proofs.YtlhhhlimjajnlaaGreat.P14 Go.Proofs.YtlhhhlimjajnlaaGreat.P12 Go.Proofs.YtlhhhlimjajnlaaGreat.R13 Go.Proofs.YtlhhhlimjajnlaaGreat.Ck Go.Proofs.YtlhhhlimjajnlaaGreatW.PrintWords Go.Proofs.YtlhhhlimjajnlaaGreatW.PrintLast Go.Proofs.YtlhhhlimjajnlaaGreatW.PrintMore
attribute [local go_sem] max2_int min2_int max_two min_two   
theorem spo_in {d : ByteArray} (hd : d.size ≤ 150) : ∃ (N : List ByteArray) (D : List Nod) (PE : Int),
 (∀ W, Calls Tryz.prog 13 #[.string d] W fun e w' => ∃ v0 v1 : Value, e = .returned (.tuple #[.agg #[v0, v1], .int .i64 PE]) ∧ Kd.R Kd.string 9 w' W.heap.size (fun _ => True) v0 N ∧ Kd.R k41 41 w' W.heap.size (fun _ => True) v1 D ∧ Below W.heap.size W w') ∧
 ((PE != 0) = true ∨ PE = 0 ∧ 0 < D.length ∧ D.length ≤ 5000 ∧ 0 < N.length ∧ N.length ≤ 1000 ∧ (∀ x, x ∈ N → x.size ≤ 3000) ∧ ∀ x, x ∈ D → x.f3.size ≤ 3000) := by
 have hl1 := lexV_len' d
 have hl2 := lexV_tsize d
 have hp : ∀ W, _ := fun W => refparse_c d (by omega) (by omega) W
 unfold PP at hp
 refine ⟨_, _, _, hp, ?_⟩
 by_cases he : (parseV d).2 = 0
 ·obtain ⟨z1, z2⟩ := parsed_sizes d he
  obtain ⟨p, e, hF, ho, h0, h5, h6, hpv, -⟩ := parse_fit d he
  have hN : (parseV d).1.1.length ≤ 1000 := by rw [hpv, List.length_map]; exact h6
  have hDl : (parseV d).1.2.length = p.n.length := by rw [hpv]; show (P13.treeN p).length = _; unfold P13.treeN; rw [List.length_map, List.length_zip, hF.len]; exact Nat.min_self _
  have hc := check_parse d he
  obtain ⟨b1, b2⟩ := check_begin (N := (parseV d).1.1) (D := (parseV d).1.2) (by omega) (by omega) hN
  have hroot : ((parseV d).1.2.getD 0 nz).f0 = 1 ∧ ((parseV d).1.2.getD 0 nz).f2 = -1 := Classical.byContradiction fun h => by have := b1 h; rw [hc] at this; exact absurd this (by decide)
  have hL := b2 hroot
  rw [hc] at hL
  have hok : okNod (parseV d).1.1.length ((parseV d).1.2.getD 0 nz) = true := by
   cases h : okNod (parseV d).1.1.length ((parseV d).1.2.getD 0 nz)
   ·exact absurd (hL.1 h) (by decide)
   ·rfl
  have hN0 : 0 < (parseV d).1.1.length := by
   unfold okNod namedP at hok
   rw [if_neg (by omega)] at hok
   simp only [Bool.and_eq_true, decide_eq_true_eq] at hok
   omega
  exact .inr ⟨he, by omega, by omega, hN0, hN, fun x hx => Nat.le_trans (z1 x hx) (by omega), fun x hx => Nat.le_trans (z2 x hx) (by omega)⟩
 ·exact .inl (by simpa using he)
theorem node_put {W : World} {ga n cap base : Nat} {N : List Nod} (h : Kd.R k41 41 W base (fun _ => True) (.slice (some ⟨ga, 0, none⟩) n cap) N) (i : Nat) (hi : i < n) (j : Nat) (hj : j < 4) (u : Value) (x' : Nod)
 (hM : [Value.int .i64 (N.getD i nz).f0, .int .i64 (N.getD i nz).f1, .int .i64 (N.getD i nz).f2, .string (N.getD i nz).f3].take j ++ [u] ++ [Value.int .i64 (N.getD i nz).f0, .int .i64 (N.getD i nz).f1, .int .i64 (N.getD i nz).f2, .string (N.getD i nz).f3].drop (j + 1) = [.int .i64 x'.f0, .int .i64 x'.f1, .int .i64 x'.f2, .string x'.f3]) :
 Kd.R k41 41 (W.setCell ⟨ga, i * 4 + j, none⟩ u) base (fun _ => True) (.slice (some ⟨ga, 0, none⟩) n cap) (N.set i x') ∧ W.grownBy (W.setCell ⟨ga, i * 4 + j, none⟩ u) (some ga) := by
 obtain ⟨hn, hnc, hC⟩ := Kd.R_reads' h
 obtain ⟨ad, he, r0, r1, r2, r3⟩ := at_T41 hC (i : Int) (by omega) (by omega)
 cases he
 rw [show rd_T41 N (i : Int) = N.getD i nz from rfl] at r0 r1 r2 r3
 obtain ⟨x, hx⟩ : ∃ x, N.getD i nz = x := ⟨_, rfl⟩
 rw [hx] at r0 r1 r2 r3 hM
 have ea : (⟨ga, 0, none⟩ : Addr).add ((i : Int).toNat * 4) = ⟨ga, i * 4, none⟩ := by simp [Addr.add]; omega
 rw [ea] at r0 r1 r2 r3
 have := Kd.R_seg (c := [.int .i64 x.f0, .int .i64 x.f1, .int .i64 x.f2, .string x.f3]) (seg := [u]) (j := j) (okp := fun _ => False) (x' := x') h (i : Int) (by omega) (by omega) rfl (by
  intro j u hj
  match j, hj with
  | 0, hj => obtain rfl := Option.some.inj hj; exact r0
  | 1, hj => obtain rfl := Option.some.inj hj; exact r1
  | 2, hj => obtain rfl := Option.some.inj hj; exact r2
  | 3, hj => obtain rfl := Option.some.inj hj; exact r3) (by show j + 1 ≤ 4; omega) (by show Kd.M k41 _ _ _ x' (_ ++ _ ++ List.drop (j + 1) _); rw [hM]; exact k41_mkM _ _ _ x') (fun _ hk => hk.elim)
 rw [Int.toNat_natCast] at this
 exact this
theorem spo_fin {N : List ByteArray} {D : List Nod} {W : World} {A1 A2 : Option Addr} {c1 c2 ln ld : Nat} (h1 : N.length = ln) (h2 : D.length = ld) (hN : Kd.C Kd.string W A1 ln N) (hc1 : ln ≤ c1) (hD : Kd.C k41 W A2 ld D) (hc2 : ld ≤ c2) (hs : ∀ x, x ∈ N → x.size ≤ 1000000000) (hx : ∀ x, x ∈ D → x.f3.size ≤ 1000000000) : ∃ CE : Int,
 (∀ W', Below W.heap.size W W' → Calls Tryz.prog 19 #[.agg #[.slice A1 ln c1, .slice A2 ld c2]] W' fun e w' => e = .returned (.int .i64 CE) ∧ Below W'.heap.size W' w') ∧
 (∀ W', Below W.heap.size W W' → Calls Tryz.prog 20 #[.agg #[.slice A1 ln c1, .slice A2 ld c2]] W' fun e w' => e = .returned (.int .i64 CE) ∧ Below W'.heap.size W' w') := by
 subst h1 h2
 have hsm : smallC N D = true := by
  unfold smallC
  rw [Bool.and_eq_true, List.all_eq_true, List.all_eq_true]
  exact ⟨fun x h => decide_eq_true (Nat.le_trans (hx x h) (by omega)), fun x h => decide_eq_true (Nat.le_trans (hs x h) (by omega))⟩
 have hcc : canon_Check.f N D = some (checkV N D) := by rw [canon_Check.f, if_pos hsm]
 exact ⟨checkV N D, fun W' hb => canon_Check.calls A1 c1 N A2 c2 D _ W' (Kd.C_below hN hb) hc1 (Kd.C_below hD hb) hc2 hcc, fun W' hb => refcheck_c (Kd.C_below hN hb) hc1 (Kd.C_below hD hb) hc2 hs hx⟩
theorem mem_set {α : Type} {l : List α} {i : Nat} {a x : α} (h : x ∈ l.set i a) : x ∈ l ∨ x = a := by
 rcases List.mem_or_eq_of_mem_set h with h | h
 ·exact .inl h
 ·exact .inr h
set_option maxHeartbeats 8000000 in
set_option maxRecDepth 100000 in
theorem canonSpoilt_c (doc : ByteArray) (q0 q1 q2 : Int) {w : World} (hG : G w) :
 Calls Tryz.prog 7 #[.string doc, .agg #[.int .i64 q0, .int .i64 q1, .int .i64 q2]] w fun e w' => e = .returned (.bool true) ∧ Below w.heap.size w w' := by
 obtain ⟨d, hd, hd2⟩ := cut_f doc 150
 obtain ⟨n, dd, PE, hpa, hcase⟩ := spo_in hd2
 obtain ⟨ln, hln⟩ : ∃ ln, n.length = ln := ⟨_, rfl⟩
 obtain ⟨ld, hld⟩ : ∃ ld, dd.length = ld := ⟨_, rfl⟩
 rw [hln, hld] at hcase
 have HPA := Lib.hid hpa
 have HCASE := Lib.hid hcase
 have HSH := Lib.hid (fun W => L4_short.calls doc 150 d W hd)
 have HG := Lib.hid hG
 clear hG hpa hcase hd hd2
 have hkb := blk_new w (.cells #[.int .i64 q0, .int .i64 q1, .int .i64 q2] 39)
 have hbb := below_alloc (Below.refl w.heap.size w) (.cells #[.int .i64 q0, .int .i64 q1, .int .i64 q2] 39)
 go_enter Tryz.func7, Tryz.ntmps7
 go_upto_region 3 with (first | (go_at_call 15; refine (L4_awake.calls true _ (G.below HG.out hbb) awake14).mono ?_; rintro e w1 ⟨rfl, hb1⟩; have hk1 := blk_below hkb hb1; have HB1 := Lib.hid (below_step hbb hb1); clear hb1 hbb hkb) | (go_at_call 21; refine (HSH.out _).mono ?_; rintro e w2 ⟨rfl, n2, rfl⟩) | (go_at_call 13; refine (HPA.out _).mono ?_; rintro e w3 ⟨v0, v1, rfl, ho0, ho1, hb3⟩; have hk3 := blk_below (blk_drewN hk1 n2) hb3; obtain ⟨A1, c1, e1⟩ := Kd.R_slice ho0; obtain ⟨A2, c2, e2⟩ := Kd.R_slice ho1; rw [hln] at e1; rw [hld] at e2; subst e1; subst e2; have HO0 := Lib.hid ho0; have HO1 := Lib.hid ho1; have HB3 := Lib.hid (below_step (pw_below_drewN HB1.out _) hb3); clear hb3 ho0 ho1 hk1))
 have hb4 := below_alloc (Below.refl w3.heap.size w3) (.cells #[.slice A1 ln c1, .slice A2 ld c2] 27)
 have hk4 := blk_new w3 (.cells #[.slice A1 ln c1, .slice A2 ld c2] 27)
 have hr1 := Kd.R_alloc HO0.out (.cells #[.slice A1 ln c1, .slice A2 ld c2] 27)
 have hr2 := Kd.R_alloc HO1.out (.cells #[.slice A1 ln c1, .slice A2 ld c2] 27)
 have hk3' := blk_below hk3 hb4
 generalize w3.alloc (.cells #[.slice A1 ln c1, .slice A2 ld c2] 27) = w4 at hb4 hk4 hr1 hr2 hk3' ⊢
 obtain ⟨g6, hg6⟩ : ∃ g6, w3.heap.size = g6 := ⟨_, rfl⟩
 have HB4 := Lib.hid (below_step HB3.out hb4)
 have hg6w : w.heap.size < g6 := by rw [← hg6]; exact blk_lt hk3
 rw [hg6] at hk4 ⊢
 have x0 := (blk_cell hk4 0).trans (show _ = some (Value.slice A1 ln c1) from rfl)
 have x1 := (blk_cell hk4 1).trans (show _ = some (Value.slice A2 ld c2) from rfl)
 clear hb4 hk3
 rcases HCASE.out with q | ⟨rfl, m1, m2, m3, m4, m5, m6⟩
 ·clear HCASE
  go_wp2
  go_ret
  exact ⟨rfl, HB4.out⟩
 clear HCASE
 have q : ((ld : Int) == 0) = false := by rw [beq_eq_false_iff_ne]; omega
 have z0 := (blk_cell hk3' 0).trans (show _ = some (Value.int .i64 q0) from rfl)
 have z1 := (blk_cell hk3' 1).trans (show _ = some (Value.int .i64 q1) from rfl)
 have z2 := (blk_cell hk3' 2).trans (show _ = some (Value.int .i64 q2) from rfl)
 have hrem : -(ld : Int) < q0.tmod ld ∧ q0.tmod ld < ld := ⟨Int.lt_tmod_of_pos q0 (by omega), Int.tmod_lt_of_pos q0 (by omega)⟩
 obtain ⟨i, hi⟩ : ∃ i : Nat, (wrap64 (q0.tmod ld + ld)).tmod ld = (i : Int) ∧ i < ld := by
  have hw : wrap64 (q0.tmod ld + ld) = q0.tmod ld + ld := by unfold wrap64; omega
  rw [hw]
  have h0 := Int.tmod_nonneg (a := q0.tmod ld + ld) ld (by omega)
  have h1 := Int.tmod_lt_of_pos (q0.tmod ld + ld) (b := (ld : Int)) (by omega)
  exact ⟨((q0.tmod ld + ld).tmod ld).toNat, by omega, by omega⟩
 obtain ⟨hi, hil⟩ := hi
 have s1 : ((0 : Int) ≤ (i : Int)) = True := eq_true (by omega)
 have s2 : ((i : Int) < (ld : Int)) = True := eq_true (by omega)
 obtain ⟨gD, cD, eD, bD, lD, ⟨csD, hD⟩⟩ := Kd.R_form hr2 (by rw [hld]; exact m1)
 rw [hld] at eD
 injection eD with e1 e2 e3
 subst e1 e3
 obtain ⟨gN, cN, eN, bN, lN, ⟨csN, hN⟩⟩ := Kd.R_form hr1 (by rw [hln]; exact m3)
 rw [hln] at eN
 injection eN with e1 e2 e3
 subst e1 e3
 obtain ⟨ad, had, r0, r1, r2, r3⟩ := at_T41 (Kd.R_reads' hr2).2.2 (i : Int) (by omega) (by omega)
 obtain rfl := Option.some.inj had
 rw [show rd_T41 dd (i : Int) = dd.getD i nz from rfl, Int.toNat_natCast] at r0 r1 r2 r3
 have ea : (⟨gD, 0, none⟩ : Addr).add (i * 4) = ⟨gD, i * 4, none⟩ := by simp [Addr.add] <;> omega
 rw [ea] at r0 r1 r2 r3
 obtain ⟨⟨v0, v1, v2, v3⟩, hv⟩ : ∃ v, dd.getD i nz = v := ⟨_, rfl⟩
 rw [hv] at r0 r1 r2 r3
 dsimp only at r0 r1 r2 r3
 obtain ⟨dv, hdv⟩ : ∃ dv, q2.tmod 4 = dv := ⟨_, rfl⟩
 have hm6 : -(6 : Int) < q1.tmod 6 ∧ q1.tmod 6 < 6 := ⟨Int.lt_tmod_of_pos q1 (by omega), Int.tmod_lt_of_pos q1 (by omega)⟩
 have hm : q1.tmod 6 = 0 ∨ (q1.tmod 6 = 1 ∨ q1.tmod 6 = -1) ∨ (q1.tmod 6 = 2 ∨ q1.tmod 6 = -2) ∨ (q1.tmod 6 = 3 ∨ q1.tmod 6 = -3) ∨ (q1.tmod 6 = 4 ∨ q1.tmod 6 = -4) ∨ (q1.tmod 6 = 5 ∨ q1.tmod 6 = -5) := by omega
 have hB : w.heap.size ≤ (w1.drewN n2).heap.size := (pw_below_drewN HB1.out n2).size
 have GE := Lib.hid (show w.heap.size ≤ gD from Nat.le_trans hB bD)
 have GEN := Lib.hid (show w.heap.size ≤ gN from Nat.le_trans hB bN)
 have M5 := Lib.hid m5
 have M6 := Lib.hid m6
 have HV := Lib.hid hv
 have hv3 : v3.size ≤ 3000 := by
  have h := m6 (dd.getD i nz) (by rw [List.getD_eq_getElem?_getD, List.getElem?_eq_getElem (by omega)]; exact List.getElem_mem _)
  rw [hv] at h
  exact h
 have HV3 := Lib.hid hv3
 have sz : (9223372036854775807 < v3.size + 1) = False := eq_false (by omega)
 clear hrem hm6 hv m5 m6 hv3
 go_wp2
 go_quiet (fail)
 obtain ⟨w5, hw5⟩ : ∃ w5, (w4.drewN nq).drew = w5 := ⟨_, rfl⟩
 have hb45 : Below w4.heap.size w4 w5 := by rw [← hw5]; exact below_drew (pw_below_drewN (Below.refl _ _) _)
 have HK5 := Lib.hid (show w5.heap[g6]? = some (.cells #[.slice (some ⟨gN, 0, none⟩) ln c1, .slice (some ⟨gD, 0, none⟩) ld c2] 27 (0, 0)) from blk_below hk4 hb45)
 have HB5 := Lib.hid (below_step HB4.out hb45)
 have R1 := Lib.hid (Kd.R_below hr1 hb45)
 have R2 := Lib.hid (Kd.R_below hr2 hb45)
 have y0 := (blk_cell HK5.out 0).trans (show _ = some (Value.slice (some ⟨gN, 0, none⟩) ln c1) from rfl)
 have y1 := (blk_cell HK5.out 1).trans (show _ = some (Value.slice (some ⟨gD, 0, none⟩) ld c2) from rfl)
 have t0 := (hb45.cell (World.block_lt_of_cell? w4 _ r0)).trans r0
 have t1 := (hb45.cell (World.block_lt_of_cell? w4 _ r1)).trans r1
 have t2 := (hb45.cell (World.block_lt_of_cell? w4 _ r2)).trans r2
 have t3 := (hb45.cell (World.block_lt_of_cell? w4 _ r3)).trans r3
 rcases hm with hm | hm | hm | hm | hm | hm
 ·go_wp2
  refine wp_region_still_tail 13 (by kernel_rfl) (by kernel_rfl) ?_
  change wpStill _ _ (World.drew (w4.drewN nq)) (fun a' => wpList _ _ _ _ a' (World.drew (w4.drewN nq))) _ _
  rw [hw5]
  simp only [List.take_succ_cons, List.take_zero, List.drop_succ_cons, List.drop_zero]
  repeat still_step
  refine wpStill_nil ?_
  have hpt := node_put R2.out i hil 0 (by omega) (.int .i64 (wrap64 (v0 + dv))) ⟨wrap64 (v0 + dv), v1, v2, v3⟩ (by rw [HV.out]; rfl)
  have hr6 := Kd.R_reads' hpt.1
  have hn6 := Kd.R_reads' (Kd.R_over R1.out R2.out (by decide) hpt.2)
  have hk6 := blk_grown HK5.out hpt.2 (Kd.R_ne R2.out HK5.out (by decide))
  have hb6 := HB5.out.setCell (p := ⟨gD, i * 4 + 0, none⟩) GE.out (.int .i64 (wrap64 (v0 + dv)))
  obtain ⟨CE, hcc, hrc⟩ := spo_fin (D := dd.set i ⟨wrap64 (v0 + dv), v1, v2, v3⟩) (ld := ld) hln (by rw [List.length_set]; exact hld) (by have := hn6.2.2; rw [hln] at this; exact this) hn6.2.1 (by have := hr6.2.2; rw [List.length_set, hld] at this; exact this) hr6.2.1 (fun x hx => Nat.le_trans (M5.out x hx) (by omega)) (fun x hx => by rcases mem_set hx with h | rfl; exact Nat.le_trans (M6.out x h) (by omega); exact Nat.le_trans HV3.out (by omega))
  clear hpt hr6 hn6
  have f0 := blk_frozen (blk_below hD hb45) (i * 4 + 0)
  try simp only [Nat.add_zero] at hk6 hb6 hcc hrc f0
  go_upto_region 26 with (fail)
  generalize w5.setCell ⟨gD, i * 4, none⟩ (.int .i64 (wrap64 (v0 + dv))) = w6 at hk6 hb6 hcc hrc ⊢
  have HB6 := Lib.hid hb6
  have HCC := Lib.hid hcc
  have HRC := Lib.hid hrc
  have HK6 := Lib.hid hk6
  have y0 := (blk_cell HK6.out 0).trans (show _ = some (Value.slice (some ⟨gN, 0, none⟩) ln c1) from rfl)
  have y1 := (blk_cell HK6.out 1).trans (show _ = some (Value.slice (some ⟨gD, 0, none⟩) ld c2) from rfl)
  clear hb6 hcc hrc hk6
  go_wp2
  go_region_held3 (fun W => W.cell? ⟨g6, 0, none⟩ = some (.slice (some ⟨gN, 0, none⟩) ln c1) ∧ W.cell? ⟨g6, 1, none⟩ = some (.slice (some ⟨gD, 0, none⟩) ld c2)) (first | exact ⟨by assumption, by assumption⟩ | go_keep) (first | (go_at_call 19; refine (HCC.out _ (zz9)).mono ?_; rintro e w7 ⟨rfl, hb7⟩; have HB7 := Lib.hid (below_step (show Below w6.heap.size w6 _ from (zz9)) hb7); have y0 := (blk_cell (blk_below HK6.out HB7.out) 0).trans (show _ = some (Value.slice (some ⟨gN, 0, none⟩) ln c1) from rfl); have y1 := (blk_cell (blk_below HK6.out HB7.out) 1).trans (show _ = some (Value.slice (some ⟨gD, 0, none⟩) ld c2) from rfl); clear hb7) | (go_at_call 20; refine (HRC.out _ (zz12)).mono ?_; rintro e w8 ⟨rfl, hb8⟩; have HB8 := Lib.hid (below_step (show Below w6.heap.size w6 _ from (zz12)) hb8); have y0 := (blk_cell (blk_below HK6.out HB8.out) 0).trans (show _ = some (Value.slice (some ⟨gN, 0, none⟩) ln c1) from rfl); have y1 := (blk_cell (blk_below HK6.out HB8.out) 1).trans (show _ = some (Value.slice (some ⟨gD, 0, none⟩) ld c2) from rfl); clear hb8))
  go_wp2
  go_ret
  exact zz14
 ·rcases hm with hm | hm
  all_goals
   go_wp2
   refine wp_region_still_tail 13 (by kernel_rfl) (by kernel_rfl) ?_
   change wpStill _ _ (World.drew (w4.drewN nq)) (fun a' => wpList _ _ _ _ a' (World.drew (w4.drewN nq))) _ _
   rw [hw5]
   simp only [List.take_succ_cons, List.take_zero, List.drop_succ_cons, List.drop_zero]
   repeat still_step
   refine wpStill_nil ?_
   have hpt := node_put R2.out i hil 1 (by omega) (.int .i64 (wrap64 (v1 + dv))) ⟨v0, wrap64 (v1 + dv), v2, v3⟩ (by rw [HV.out]; rfl)
   have hr6 := Kd.R_reads' hpt.1
   have hn6 := Kd.R_reads' (Kd.R_over R1.out R2.out (by decide) hpt.2)
   have hk6 := blk_grown HK5.out hpt.2 (Kd.R_ne R2.out HK5.out (by decide))
   have hb6 := HB5.out.setCell (p := ⟨gD, i * 4 + 1, none⟩) GE.out (.int .i64 (wrap64 (v1 + dv)))
   obtain ⟨CE, hcc, hrc⟩ := spo_fin (D := dd.set i ⟨v0, wrap64 (v1 + dv), v2, v3⟩) (ld := ld) hln (by rw [List.length_set]; exact hld) (by have := hn6.2.2; rw [hln] at this; exact this) hn6.2.1 (by have := hr6.2.2; rw [List.length_set, hld] at this; exact this) hr6.2.1 (fun x hx => Nat.le_trans (M5.out x hx) (by omega)) (fun x hx => by rcases mem_set hx with h | rfl; exact Nat.le_trans (M6.out x h) (by omega); exact Nat.le_trans HV3.out (by omega))
   clear hpt hr6 hn6
   have f0 := blk_frozen (blk_below hD hb45) (i * 4 + 1)
   try simp only [Nat.add_zero] at hk6 hb6 hcc hrc f0
   go_upto_region 26 with (fail)
   generalize w5.setCell ⟨gD, i * 4 + 1, none⟩ (.int .i64 (wrap64 (v1 + dv))) = w6 at hk6 hb6 hcc hrc ⊢
   have HB6 := Lib.hid hb6
   have HCC := Lib.hid hcc
   have HRC := Lib.hid hrc
   have HK6 := Lib.hid hk6
   have y0 := (blk_cell HK6.out 0).trans (show _ = some (Value.slice (some ⟨gN, 0, none⟩) ln c1) from rfl)
   have y1 := (blk_cell HK6.out 1).trans (show _ = some (Value.slice (some ⟨gD, 0, none⟩) ld c2) from rfl)
   clear hb6 hcc hrc hk6
   go_wp2
   go_region_held3 (fun W => W.cell? ⟨g6, 0, none⟩ = some (.slice (some ⟨gN, 0, none⟩) ln c1) ∧ W.cell? ⟨g6, 1, none⟩ = some (.slice (some ⟨gD, 0, none⟩) ld c2)) (first | exact ⟨by assumption, by assumption⟩ | go_keep) (first | (go_at_call 19; refine (HCC.out _ (zz9)).mono ?_; rintro e w7 ⟨rfl, hb7⟩; have HB7 := Lib.hid (below_step (show Below w6.heap.size w6 _ from (zz9)) hb7); have y0 := (blk_cell (blk_below HK6.out HB7.out) 0).trans (show _ = some (Value.slice (some ⟨gN, 0, none⟩) ln c1) from rfl); have y1 := (blk_cell (blk_below HK6.out HB7.out) 1).trans (show _ = some (Value.slice (some ⟨gD, 0, none⟩) ld c2) from rfl); clear hb7) | (go_at_call 20; refine (HRC.out _ (zz12)).mono ?_; rintro e w8 ⟨rfl, hb8⟩; have HB8 := Lib.hid (below_step (show Below w6.heap.size w6 _ from (zz12)) hb8); have y0 := (blk_cell (blk_below HK6.out HB8.out) 0).trans (show _ = some (Value.slice (some ⟨gN, 0, none⟩) ln c1) from rfl); have y1 := (blk_cell (blk_below HK6.out HB8.out) 1).trans (show _ = some (Value.slice (some ⟨gD, 0, none⟩) ld c2) from rfl); clear hb8))
   go_wp2
   go_ret
   exact zz14
 ·rcases hm with hm | hm
  all_goals
   go_wp2
   refine wp_region_still_tail 13 (by kernel_rfl) (by kernel_rfl) ?_
   change wpStill _ _ (World.drew (w4.drewN nq)) (fun a' => wpList _ _ _ _ a' (World.drew (w4.drewN nq))) _ _
   rw [hw5]
   simp only [List.take_succ_cons, List.take_zero, List.drop_succ_cons, List.drop_zero]
   repeat still_step
   refine wpStill_nil ?_
   have hpt := node_put R2.out i hil 2 (by omega) (.int .i64 (wrap64 (v2 + dv))) ⟨v0, v1, wrap64 (v2 + dv), v3⟩ (by rw [HV.out]; rfl)
   have hr6 := Kd.R_reads' hpt.1
   have hn6 := Kd.R_reads' (Kd.R_over R1.out R2.out (by decide) hpt.2)
   have hk6 := blk_grown HK5.out hpt.2 (Kd.R_ne R2.out HK5.out (by decide))
   have hb6 := HB5.out.setCell (p := ⟨gD, i * 4 + 2, none⟩) GE.out (.int .i64 (wrap64 (v2 + dv)))
   obtain ⟨CE, hcc, hrc⟩ := spo_fin (D := dd.set i ⟨v0, v1, wrap64 (v2 + dv), v3⟩) (ld := ld) hln (by rw [List.length_set]; exact hld) (by have := hn6.2.2; rw [hln] at this; exact this) hn6.2.1 (by have := hr6.2.2; rw [List.length_set, hld] at this; exact this) hr6.2.1 (fun x hx => Nat.le_trans (M5.out x hx) (by omega)) (fun x hx => by rcases mem_set hx with h | rfl; exact Nat.le_trans (M6.out x h) (by omega); exact Nat.le_trans HV3.out (by omega))
   clear hpt hr6 hn6
   have f0 := blk_frozen (blk_below hD hb45) (i * 4 + 2)
   try simp only [Nat.add_zero] at hk6 hb6 hcc hrc f0
   go_upto_region 26 with (fail)
   generalize w5.setCell ⟨gD, i * 4 + 2, none⟩ (.int .i64 (wrap64 (v2 + dv))) = w6 at hk6 hb6 hcc hrc ⊢
   have HB6 := Lib.hid hb6
   have HCC := Lib.hid hcc
   have HRC := Lib.hid hrc
   have HK6 := Lib.hid hk6
   have y0 := (blk_cell HK6.out 0).trans (show _ = some (Value.slice (some ⟨gN, 0, none⟩) ln c1) from rfl)
   have y1 := (blk_cell HK6.out 1).trans (show _ = some (Value.slice (some ⟨gD, 0, none⟩) ld c2) from rfl)
   clear hb6 hcc hrc hk6
   go_wp2
   go_region_held3 (fun W => W.cell? ⟨g6, 0, none⟩ = some (.slice (some ⟨gN, 0, none⟩) ln c1) ∧ W.cell? ⟨g6, 1, none⟩ = some (.slice (some ⟨gD, 0, none⟩) ld c2)) (first | exact ⟨by assumption, by assumption⟩ | go_keep) (first | (go_at_call 19; refine (HCC.out _ (zz9)).mono ?_; rintro e w7 ⟨rfl, hb7⟩; have HB7 := Lib.hid (below_step (show Below w6.heap.size w6 _ from (zz9)) hb7); have y0 := (blk_cell (blk_below HK6.out HB7.out) 0).trans (show _ = some (Value.slice (some ⟨gN, 0, none⟩) ln c1) from rfl); have y1 := (blk_cell (blk_below HK6.out HB7.out) 1).trans (show _ = some (Value.slice (some ⟨gD, 0, none⟩) ld c2) from rfl); clear hb7) | (go_at_call 20; refine (HRC.out _ (zz12)).mono ?_; rintro e w8 ⟨rfl, hb8⟩; have HB8 := Lib.hid (below_step (show Below w6.heap.size w6 _ from (zz12)) hb8); have y0 := (blk_cell (blk_below HK6.out HB8.out) 0).trans (show _ = some (Value.slice (some ⟨gN, 0, none⟩) ln c1) from rfl); have y1 := (blk_cell (blk_below HK6.out HB8.out) 1).trans (show _ = some (Value.slice (some ⟨gD, 0, none⟩) ld c2) from rfl); clear hb8))
   go_wp2
   go_ret
   exact zz14
 ·rcases hm with hm | hm
  all_goals
   by_cases hd : dv = 1
   ·have hd' : (dv == 1) = true := by simpa using hd
    clear hd
    go_wp2
    refine wp_region_still_tail 13 (by kernel_rfl) (by kernel_rfl) ?_
    change wpStill _ _ (World.drew (w4.drewN nq)) (fun a' => wpList _ _ _ _ a' (World.drew (w4.drewN nq))) _ _
    rw [hw5]
    simp only [List.take_succ_cons, List.take_zero, List.drop_succ_cons, List.drop_zero]
    repeat still_step
    refine wpStill_nil ?_
    have hpt := node_put R2.out i hil 3 (by omega) (.string (v3 ++ ⟨#[1]⟩)) ⟨v0, v1, v2, v3 ++ ⟨#[1]⟩⟩ (by rw [HV.out]; rfl)
    have hr6 := Kd.R_reads' hpt.1
    have hn6 := Kd.R_reads' (Kd.R_over R1.out R2.out (by decide) hpt.2)
    have hk6 := blk_grown HK5.out hpt.2 (Kd.R_ne R2.out HK5.out (by decide))
    have hb6 := HB5.out.setCell (p := ⟨gD, i * 4 + 3, none⟩) GE.out (.string (v3 ++ ⟨#[1]⟩))
    obtain ⟨CE, hcc, hrc⟩ := spo_fin (D := dd.set i ⟨v0, v1, v2, v3 ++ ⟨#[1]⟩⟩) (ld := ld) hln (by rw [List.length_set]; exact hld) (by have := hn6.2.2; rw [hln] at this; exact this) hn6.2.1 (by have := hr6.2.2; rw [List.length_set, hld] at this; exact this) hr6.2.1 (fun x hx => Nat.le_trans (M5.out x hx) (by omega)) (fun x hx => by rcases mem_set hx with h | rfl; exact Nat.le_trans (M6.out x h) (by omega); (have := HV3.out; show (v3 ++ ⟨#[1]⟩).size ≤ 1000000000; rw [ByteArray.size_append]; show v3.size + 1 ≤ 1000000000; omega))
    clear hpt hr6 hn6
    have f0 := blk_frozen (blk_below hD hb45) (i * 4 + 3)
    try simp only [Nat.add_zero] at hk6 hb6 hcc hrc f0
    go_upto_region 26 with (fail)
    generalize w5.setCell ⟨gD, i * 4 + 3, none⟩ (.string (v3 ++ ⟨#[1]⟩)) = w6 at hk6 hb6 hcc hrc ⊢
    have HB6 := Lib.hid hb6
    have HCC := Lib.hid hcc
    have HRC := Lib.hid hrc
    have HK6 := Lib.hid hk6
    have y0 := (blk_cell HK6.out 0).trans (show _ = some (Value.slice (some ⟨gN, 0, none⟩) ln c1) from rfl)
    have y1 := (blk_cell HK6.out 1).trans (show _ = some (Value.slice (some ⟨gD, 0, none⟩) ld c2) from rfl)
    clear hb6 hcc hrc hk6
    go_wp2
    go_region_held3 (fun W => W.cell? ⟨g6, 0, none⟩ = some (.slice (some ⟨gN, 0, none⟩) ln c1) ∧ W.cell? ⟨g6, 1, none⟩ = some (.slice (some ⟨gD, 0, none⟩) ld c2)) (first | exact ⟨by assumption, by assumption⟩ | go_keep) (first | (go_at_call 19; refine (HCC.out _ (zz9)).mono ?_; rintro e w7 ⟨rfl, hb7⟩; have HB7 := Lib.hid (below_step (show Below w6.heap.size w6 _ from (zz9)) hb7); have y0 := (blk_cell (blk_below HK6.out HB7.out) 0).trans (show _ = some (Value.slice (some ⟨gN, 0, none⟩) ln c1) from rfl); have y1 := (blk_cell (blk_below HK6.out HB7.out) 1).trans (show _ = some (Value.slice (some ⟨gD, 0, none⟩) ld c2) from rfl); clear hb7) | (go_at_call 20; refine (HRC.out _ (zz12)).mono ?_; rintro e w8 ⟨rfl, hb8⟩; have HB8 := Lib.hid (below_step (show Below w6.heap.size w6 _ from (zz12)) hb8); have y0 := (blk_cell (blk_below HK6.out HB8.out) 0).trans (show _ = some (Value.slice (some ⟨gN, 0, none⟩) ln c1) from rfl); have y1 := (blk_cell (blk_below HK6.out HB8.out) 1).trans (show _ = some (Value.slice (some ⟨gD, 0, none⟩) ld c2) from rfl); clear hb8))
    go_wp2
    go_ret
    exact zz14
   ·have hd' : (dv == 1) = false := by simpa using hd
    clear hd
    go_wp2
    refine wp_region_still_tail 13 (by kernel_rfl) (by kernel_rfl) ?_
    change wpStill _ _ (World.drew (w4.drewN nq)) (fun a' => wpList _ _ _ _ a' (World.drew (w4.drewN nq))) _ _
    rw [hw5]
    simp only [List.take_succ_cons, List.take_zero, List.drop_succ_cons, List.drop_zero]
    repeat still_step
    refine wpStill_nil ?_
    have hpt := node_put R2.out i hil 3 (by omega) (.string (v3 ++ ⟨#[120]⟩)) ⟨v0, v1, v2, v3 ++ ⟨#[120]⟩⟩ (by rw [HV.out]; rfl)
    have hr6 := Kd.R_reads' hpt.1
    have hn6 := Kd.R_reads' (Kd.R_over R1.out R2.out (by decide) hpt.2)
    have hk6 := blk_grown HK5.out hpt.2 (Kd.R_ne R2.out HK5.out (by decide))
    have hb6 := HB5.out.setCell (p := ⟨gD, i * 4 + 3, none⟩) GE.out (.string (v3 ++ ⟨#[120]⟩))
    obtain ⟨CE, hcc, hrc⟩ := spo_fin (D := dd.set i ⟨v0, v1, v2, v3 ++ ⟨#[120]⟩⟩) (ld := ld) hln (by rw [List.length_set]; exact hld) (by have := hn6.2.2; rw [hln] at this; exact this) hn6.2.1 (by have := hr6.2.2; rw [List.length_set, hld] at this; exact this) hr6.2.1 (fun x hx => Nat.le_trans (M5.out x hx) (by omega)) (fun x hx => by rcases mem_set hx with h | rfl; exact Nat.le_trans (M6.out x h) (by omega); (have := HV3.out; show (v3 ++ ⟨#[120]⟩).size ≤ 1000000000; rw [ByteArray.size_append]; show v3.size + 1 ≤ 1000000000; omega))
    clear hpt hr6 hn6
    have f0 := blk_frozen (blk_below hD hb45) (i * 4 + 3)
    try simp only [Nat.add_zero] at hk6 hb6 hcc hrc f0
    go_upto_region 26 with (fail)
    generalize w5.setCell ⟨gD, i * 4 + 3, none⟩ (.string (v3 ++ ⟨#[120]⟩)) = w6 at hk6 hb6 hcc hrc ⊢
    have HB6 := Lib.hid hb6
    have HCC := Lib.hid hcc
    have HRC := Lib.hid hrc
    have HK6 := Lib.hid hk6
    have y0 := (blk_cell HK6.out 0).trans (show _ = some (Value.slice (some ⟨gN, 0, none⟩) ln c1) from rfl)
    have y1 := (blk_cell HK6.out 1).trans (show _ = some (Value.slice (some ⟨gD, 0, none⟩) ld c2) from rfl)
    clear hb6 hcc hrc hk6
    go_wp2
    go_region_held3 (fun W => W.cell? ⟨g6, 0, none⟩ = some (.slice (some ⟨gN, 0, none⟩) ln c1) ∧ W.cell? ⟨g6, 1, none⟩ = some (.slice (some ⟨gD, 0, none⟩) ld c2)) (first | exact ⟨by assumption, by assumption⟩ | go_keep) (first | (go_at_call 19; refine (HCC.out _ (zz9)).mono ?_; rintro e w7 ⟨rfl, hb7⟩; have HB7 := Lib.hid (below_step (show Below w6.heap.size w6 _ from (zz9)) hb7); have y0 := (blk_cell (blk_below HK6.out HB7.out) 0).trans (show _ = some (Value.slice (some ⟨gN, 0, none⟩) ln c1) from rfl); have y1 := (blk_cell (blk_below HK6.out HB7.out) 1).trans (show _ = some (Value.slice (some ⟨gD, 0, none⟩) ld c2) from rfl); clear hb7) | (go_at_call 20; refine (HRC.out _ (zz12)).mono ?_; rintro e w8 ⟨rfl, hb8⟩; have HB8 := Lib.hid (below_step (show Below w6.heap.size w6 _ from (zz12)) hb8); have y0 := (blk_cell (blk_below HK6.out HB8.out) 0).trans (show _ = some (Value.slice (some ⟨gN, 0, none⟩) ln c1) from rfl); have y1 := (blk_cell (blk_below HK6.out HB8.out) 1).trans (show _ = some (Value.slice (some ⟨gD, 0, none⟩) ld c2) from rfl); clear hb8))
    go_wp2
    go_ret
    exact zz14
 ·obtain ⟨an, han, u0⟩ := Kd.at_string (Kd.R_reads' R1.out).2.2 (0 : Int) (by omega) (by omega)
  obtain rfl := Option.some.inj han
  obtain ⟨S0, hS0⟩ : ∃ S0, rdOf ByteArray.empty n (0 : Int) = S0 := ⟨_, rfl⟩
  rw [hS0] at u0
  have hS0s : S0.size ≤ 3000 := by
   refine M5.out S0 ?_
   rw [← hS0]
   show n.getD 0 _ ∈ n
   rw [List.getD_eq_getElem?_getD, List.getElem?_eq_getElem (by omega)]
   exact List.getElem_mem _
  replace u0 : w5.cell? ⟨gN, 0, none⟩ = some (.string S0) := u0
  have HS0 := Lib.hid hS0s
  have sz0 : (9223372036854775807 < S0.size + 1) = False := eq_false (by omega)
  have g1 : ((0 : Int) < (ln : Int)) = True := eq_true (by omega)
  have g2 : (0 < ln) = True := eq_true m3
  clear hS0 hS0s
  rcases hm with hm | hm
  all_goals
   go_wp2
   refine wp_region_still_tail 8 (by kernel_rfl) (by kernel_rfl) ?_
   change wpStill _ _ (World.drew (w4.drewN nq)) (fun a' => wpList _ _ _ _ a' (World.drew (w4.drewN nq))) _ _
   rw [hw5]
   simp only [List.take_succ_cons, List.take_zero, List.drop_succ_cons, List.drop_zero]
   repeat still_step
   refine wpStill_nil ?_
   have hpt := Kd.R_putg R1.out (0 : Int) (S0 ++ ⟨#[122]⟩)
   have hn6 := Kd.R_reads' hpt.1
   have hr6 := Kd.R_reads' (Kd.R_over R2.out R1.out (by decide) hpt.2)
   have hk6 := blk_grown HK5.out hpt.2 (Kd.R_ne R1.out HK5.out (by decide))
   have hb6 := HB5.out.setCell (p := ⟨gN, (0 : Int).toNat, none⟩) GEN.out (.string (S0 ++ ⟨#[122]⟩))
   obtain ⟨CE, hcc, hrc⟩ := spo_fin (N := n.set (0 : Int).toNat (S0 ++ ⟨#[122]⟩)) (ln := ln) (by rw [List.length_set]; exact hln) hld (by have := hn6.2.2; rw [List.length_set, hln] at this; exact this) hn6.2.1 (by have := hr6.2.2; rw [hld] at this; exact this) hr6.2.1 (fun x hx => by rcases mem_set hx with h | rfl; exact Nat.le_trans (M5.out x h) (by omega); (have := HS0.out; rw [ByteArray.size_append]; show S0.size + 1 ≤ 1000000000; omega)) (fun x hx => Nat.le_trans (M6.out x hx) (by omega))
   clear hpt hr6 hn6
   have f0 := blk_frozen (blk_below hN hb45) 0
   simp only [show (0 : Int).toNat = 0 from rfl] at hk6 hb6 hcc hrc
   go_upto_region 26 with (fail)
   generalize w5.setCell ⟨gN, 0, none⟩ (.string (S0 ++ ⟨#[122]⟩)) = w6 at hk6 hb6 hcc hrc ⊢
   have HB6 := Lib.hid hb6
   have HCC := Lib.hid hcc
   have HRC := Lib.hid hrc
   have HK6 := Lib.hid hk6
   have y0 := (blk_cell HK6.out 0).trans (show _ = some (Value.slice (some ⟨gN, 0, none⟩) ln c1) from rfl)
   have y1 := (blk_cell HK6.out 1).trans (show _ = some (Value.slice (some ⟨gD, 0, none⟩) ld c2) from rfl)
   clear hb6 hcc hrc hk6
   go_wp2
   go_region_held3 (fun W => W.cell? ⟨g6, 0, none⟩ = some (.slice (some ⟨gN, 0, none⟩) ln c1) ∧ W.cell? ⟨g6, 1, none⟩ = some (.slice (some ⟨gD, 0, none⟩) ld c2)) (first | exact ⟨by assumption, by assumption⟩ | go_keep) (first | (go_at_call 19; refine (HCC.out _ (zz9)).mono ?_; rintro e w7 ⟨rfl, hb7⟩; have HB7 := Lib.hid (below_step (show Below w6.heap.size w6 _ from (zz9)) hb7); have y0 := (blk_cell (blk_below HK6.out HB7.out) 0).trans (show _ = some (Value.slice (some ⟨gN, 0, none⟩) ln c1) from rfl); have y1 := (blk_cell (blk_below HK6.out HB7.out) 1).trans (show _ = some (Value.slice (some ⟨gD, 0, none⟩) ld c2) from rfl); clear hb7) | (go_at_call 20; refine (HRC.out _ (zz12)).mono ?_; rintro e w8 ⟨rfl, hb8⟩; have HB8 := Lib.hid (below_step (show Below w6.heap.size w6 _ from (zz12)) hb8); have y0 := (blk_cell (blk_below HK6.out HB8.out) 0).trans (show _ = some (Value.slice (some ⟨gN, 0, none⟩) ln c1) from rfl); have y1 := (blk_cell (blk_below HK6.out HB8.out) 1).trans (show _ = some (Value.slice (some ⟨gD, 0, none⟩) ld c2) from rfl); clear hb8))
   go_wp2
   go_ret
   exact zz14
 ·have hk6 := blk_set (blk_drewN hk4 nq) 1 (.slice (some ⟨gD, 0, none⟩) i c2)
  have hb6 := (pw_below_drewN HB4.out nq).setCell (p := ⟨g6, 1, none⟩) (Nat.le_of_lt hg6w) (.slice (some ⟨gD, 0, none⟩) i c2)
  have hn6 := Kd.R_reads' (Kd.R_set (Kd.R_drewN hr1 nq) (blk_drewN hk4 nq) (by decide) 1 (.slice (some ⟨gD, 0, none⟩) i c2))
  have hr6 := Kd.R_reads' (Kd.R_set (Kd.R_drewN hr2 nq) (blk_drewN hk4 nq) (by decide) 1 (.slice (some ⟨gD, 0, none⟩) i c2))
  have hlt : (dd.take i).length = i := by rw [List.length_take]; omega
  have hc2 : ld ≤ c2 := hr6.2.1
  have hct := Kd.C_take hr6.2.2 (m := i) (by omega)
  rw [hlt] at hct
  obtain ⟨CE, hcc, hrc⟩ := spo_fin (D := dd.take i) (ld := i) (c2 := c2) hln hlt (by have := hn6.2.2; rw [hln] at this; exact this) hn6.2.1 hct (by omega) (fun x hx => Nat.le_trans (M5.out x hx) (by omega)) (fun x hx => Nat.le_trans (M6.out x (List.mem_of_mem_take hx)) (by omega))
  have f0 := blk_frozen hk4 1
  have g1 : ((i : Int) ≤ (c2 : Int)) = True := eq_true (by omega)
  have g2 : (i ≤ c2) = True := eq_true (by omega)
  clear hr6 hn6 hct hlt hc2
  rcases hm with hm | hm
  all_goals
   go_upto_region 26 with (fail)
   generalize (w4.drewN nq).setCell ⟨g6, 1, none⟩ (.slice (some ⟨gD, 0, none⟩) i c2) = w6 at hk6 hb6 hcc hrc ⊢
   have HB6 := Lib.hid hb6
   have HCC := Lib.hid hcc
   have HRC := Lib.hid hrc
   have HK6 := Lib.hid hk6
   have y0 := (blk_cell HK6.out 0).trans (show _ = some (Value.slice (some ⟨gN, 0, none⟩) ln c1) from rfl)
   have y1 := (blk_cell HK6.out 1).trans (show _ = some (Value.slice (some ⟨gD, 0, none⟩) i c2) from rfl)
   clear hb6 hcc hrc hk6
   go_wp2
   go_region_held3 (fun W => W.cell? ⟨g6, 0, none⟩ = some (.slice (some ⟨gN, 0, none⟩) ln c1) ∧ W.cell? ⟨g6, 1, none⟩ = some (.slice (some ⟨gD, 0, none⟩) i c2)) (first | exact ⟨by assumption, by assumption⟩ | go_keep) (first | (go_at_call 19; refine (HCC.out _ (zz9)).mono ?_; rintro e w7 ⟨rfl, hb7⟩; have HB7 := Lib.hid (below_step (show Below w6.heap.size w6 _ from (zz9)) hb7); have y0 := (blk_cell (blk_below HK6.out HB7.out) 0).trans (show _ = some (Value.slice (some ⟨gN, 0, none⟩) ln c1) from rfl); have y1 := (blk_cell (blk_below HK6.out HB7.out) 1).trans (show _ = some (Value.slice (some ⟨gD, 0, none⟩) i c2) from rfl); clear hb7) | (go_at_call 20; refine (HRC.out _ (zz12)).mono ?_; rintro e w8 ⟨rfl, hb8⟩; have HB8 := Lib.hid (below_step (show Below w6.heap.size w6 _ from (zz12)) hb8); have y0 := (blk_cell (blk_below HK6.out HB8.out) 0).trans (show _ = some (Value.slice (some ⟨gN, 0, none⟩) ln c1) from rfl); have y1 := (blk_cell (blk_below HK6.out HB8.out) 1).trans (show _ = some (Value.slice (some ⟨gD, 0, none⟩) i c2) from rfl); clear hb8))
   go_wp2
   go_ret
   exact zz14
end Go.Proofs.YtlhhhlimjajnlaaGreat.X
end
