/- Parts of the proof of canonParsed_holds, kept and merged by a program of mine (wip/tools/slim.py) out of my texts: ParsW -/
import Derived.Test.YtlhhhlimjajnlaaGreatSPd34
import Derived.Test.YtlhhhlimjajnlaaGreatSPd40
import Derived.Test.YtlhhhlimjajnlaaGreatSPd41
import Derived.Test.YtlhhhlimjajnlaaGreatSPd42
import Derived.Test.YtlhhhlimjajnlaaGreatSPd25
import Derived.Test.YtlhhhlimjajnlaaGreatSPd45
section
set_option linter.unusedVariables false
set_option linter.unusedSimpArgs false
namespace Go.Proofs.YtlhhhlimjajnlaaGreat.X
open Go.RowKit Go.Maps Go.Proofs.YtlhhhlimjajnlaaGreat Go.Proofs.YtlhhhlimjajnlaaGreat.Q Go.Proofs.YtlhhhlimjajnlaaGreat.P11 Go.Proofs.YtlhhhlimjajnlaaGreat.P14 Go.Proofs.YtlhhhlimjajnlaaGreat.P12 Go.Proofs.YtlhhhlimjajnlaaGreat.R13 Go.Proofs.YtlhhhlimjajnlaaGreat.Ck Go.Proofs.YtlhhhlimjajnlaaGreatW.PrintWords Go.Proofs.YtlhhhlimjajnlaaGreatW.PrintLast Go.Proofs.YtlhhhlimjajnlaaGreatW.PrintMore
attribute [local go_sem] max2_int min2_int max_two min_two   
theorem cut_f (s : ByteArray) (n : Nat) : ∃ t : ByteArray, L4_short.f s n = some t ∧ t.size ≤ n := by
 unfold L4_short.f
 by_cases h : (s.size : Int) > n
 ·rw [if_pos h, if_pos (by omega), if_pos (by omega)]
  exact ⟨_, rfl, by rw [ByteArray.size_extract]; omega⟩
 ·rw [if_neg h]; exact ⟨_, rfl, by omega⟩
theorem mem_sumS : ∀ (l : List ByteArray) (s : ByteArray), s ∈ l → s.size ≤ sumS l
 | a :: l, s, h => by
  show s.size ≤ 2 * a.size + sumS l
  rcases List.mem_cons.1 h with rfl | h
  ·omega
  ·have := mem_sumS l s h; omega
theorem mem_sumN : ∀ (l : List Nod) (x : Nod), x ∈ l → x.f3.size ≤ sumN l
 | a :: l, s, h => by
  show s.f3.size ≤ 6 * a.f3.size + 8 + sumN l
  rcases List.mem_cons.1 h with rfl | h
  ·omega
  ·have := mem_sumN l s h; omega
theorem parsed_sizes (d : ByteArray) (h : (parseV d).2 = 0) : (∀ x, x ∈ (parseV d).1.1 → x.size ≤ 14 * d.size) ∧ ∀ x, x ∈ (parseV d).1.2 → x.f3.size ≤ 14 * d.size := by
 have hl : (lexV d).2 = 0 := by
  by_cases c : (lexV d).2 = 0
  ·exact c
  ·unfold parseV at h; rw [if_neg c] at h; exact absurd h c
 obtain ⟨p, e, hF, ho, h0, h5, h6, hp, he⟩ := parse_fit d h
 rw [hp]
 have h1 := seg_cost _ _ _ _ _ _ (lexV_seg d hl) (lexV_cost d)
 have h2 := phi_run (lexV d).1 psZero
 have h3 := phi_flush ((lexV d).1.foldl X.stepT psZero)
 rw [← he] at h3
 have h4 : Phi psZero = 0 := rfl
 have h7 : sumS p.s + sumN p.n ≤ Phi p := by unfold Phi; omega
 refine ⟨fun x hx => ?_, fun x hx => ?_⟩
 ·obtain ⟨y, hy, rfl⟩ := List.mem_map.1 hx
  obtain ⟨c, hc, hcy⟩ := List.mem_filterMap.1 ((P13.mem_sorted _ _).1 hy)
  split at hcy
  ·cases hcy
  ·obtain rfl := Option.some.inj hcy
   have := mem_sumS p.s c.2 (List.of_mem_zip hc).2
   have e : (bytesL c.2.data.toList).size = c.2.size := by rw [Lib.size_eq, Lib.size_eq]; rfl
   omega
 ·obtain ⟨c, hc, rfl⟩ := List.mem_map.1 hx
  rw [(P14.numbered_f _ _ _).2.2]
  have := mem_sumN p.n c.1 (List.of_mem_zip hc).1
  omega
theorem parsed_in {d : ByteArray} (hd : d.size ≤ 200) : ∃ (N : List ByteArray) (D : List Nod) (PE : Int) (CS : ByteArray),
 (∀ W, Calls Tryz.prog 13 #[.string d] W fun e w' => ∃ v0 v1 : Value, e = .returned (.tuple #[.agg #[v0, v1], .int .i64 PE]) ∧ Kd.R Kd.string 9 w' W.heap.size (fun _ => True) v0 N ∧ Kd.R k41 41 w' W.heap.size (fun _ => True) v1 D ∧ Below W.heap.size W w') ∧
 (∀ W, G W → Calls Tryz.prog 22 #[.string d] W fun e w' => e = .returned (.tuple #[.string CS, .int .i64 PE]) ∧ Below W.heap.size W w') ∧
 ((PE != 0) = true ∧ CS = ⟨#[]⟩ ∨ PE = 0 ∧ N.length ≤ 1000000 ∧ D.length ≤ 1000000 ∧ (∀ W, Calls Tryz.prog 13 #[.string CS] W fun e w' => ∃ v0 v1 : Value, e = .returned (.tuple #[.agg #[v0, v1], .int .i64 0]) ∧ Kd.R Kd.string 9 w' W.heap.size (fun _ => True) v0 N ∧ Kd.R k41 41 w' W.heap.size (fun _ => True) v1 D ∧ Below W.heap.size W w') ∧
  ∀ A c B d' W, Kd.C Kd.string W A N.length N → N.length ≤ c → Kd.C k41 W B D.length D → D.length ≤ d' → Calls Tryz.prog 19 #[.agg #[.slice A N.length c, .slice B D.length d']] W fun e w' => e = .returned (.int .i64 0) ∧ Below W.heap.size W w') := by
 have hl1 := lexV_len' d
 have hl2 := lexV_tsize d
 have hp : ∀ W, _ := fun W => refparse_c d (by omega) (by omega) W
 by_cases he : (parseV d).2 = 0
 ·have hc := check_parse d he
  have hw := written_short d he
  obtain ⟨z1, z2⟩ := parsed_sizes d he
  obtain ⟨p, e, hF, ho, h0, h5, h6, hpv, -⟩ := parse_fit d he
  have hN : (parseV d).1.1.length ≤ 1000 := by rw [hpv, List.length_map]; exact h6
  have hD : (parseV d).1.2.length ≤ 5000 := by rw [hpv]; show (P13.treeN p).length ≤ 5000; unfold P13.treeN; rw [List.length_map, List.length_zip]; omega
  obtain ⟨⟨⟨N, D⟩, PE⟩, hND⟩ : ∃ r, parseV d = r := ⟨_, rfl⟩
  rw [hND] at hc hw z1 z2 hN hD he
  simp only at hc hw z1 z2 hN hD he
  subst he
  have hcan := canon_out hc (by omega) (fun x hx => Nat.le_trans (z1 x hx) (by omega)) (fun x hx => Nat.le_trans (z2 x hx) (by omega)) d (by omega) hND
  obtain ⟨h1, h2⟩ := parse_write hc (by omega)
  have hsz : (bytesL (endW N D).out).size ≤ 2800 := by rw [Lib.size_eq]; show (endW N D).out.length ≤ 2800; omega
  have ht1 := lexV_len' (bytesL (endW N D).out)
  have ht2 := lexV_tsize (bytesL (endW N D).out)
  have hp2 := fun W => refparse_c (bytesL (endW N D).out) (by omega) (by omega) W
  unfold PP at hp hp2
  rw [hND] at hp
  rw [h1] at hp2
  have hs : smallC N D = true := by
   unfold smallC
   rw [Bool.and_eq_true, List.all_eq_true, List.all_eq_true]
   exact ⟨fun x hx => decide_eq_true (Nat.le_trans (z2 x hx) (by omega)), fun x hx => decide_eq_true (Nat.le_trans (z1 x hx) (by omega))⟩
  have hcc : canon_Check.f N D = some 0 := by rw [canon_Check.f, if_pos hs, hc]
  exact ⟨N, D, 0, _, hp, fun W hG => canon_Canon.calls d _ 0 W hG hcan, .inr ⟨rfl, by omega, by omega, hp2, fun A c B d' W a1 a2 a3 a4 => canon_Check.calls A c N B d' D 0 W a1 a2 a3 a4 hcc⟩⟩
 ·have hcan : canon_Canon.f d = some (⟨#[]⟩, (parseV d).2) := by
   unfold canon_Canon.f parser_Parse.f
   rw [if_pos (by omega), Option.bind_some]
   simp only
   rw [if_neg he]
  exact ⟨_, _, _, _, hp, fun W hG => canon_Canon.calls d _ _ W hG hcan, .inl ⟨by simpa using he, rfl⟩⟩
set_option maxHeartbeats 8000000 in
set_option maxRecDepth 100000 in
theorem canonParsed_c (doc : ByteArray) {w : World} (hG : G w) :
 Calls Tryz.prog 6 #[.string doc] w fun e w' => e = .returned (.bool true) ∧ Below w.heap.size w w' := by
 obtain ⟨d, hd, hd2⟩ := cut_f doc 200
 obtain ⟨n, dd, PE, CS, hpa, hca, hcase⟩ := parsed_in hd2
 obtain ⟨ln, hln⟩ : ∃ ln, n.length = ln := ⟨_, rfl⟩
 obtain ⟨ld, hld⟩ : ∃ ld, dd.length = ld := ⟨_, rfl⟩
 rw [hln, hld] at hcase
 have HPA := Lib.hid hpa
 have HCA := Lib.hid hca
 have HCASE := Lib.hid hcase
 have HSH := Lib.hid (fun W => L4_short.calls doc 200 d W hd)
 have HG := Lib.hid hG
 clear hG hpa hca hcase hd hd2
 go_enter Tryz.func6, Tryz.ntmps6
 go_upto_region 4 with (first | (go_at_call 15; refine (L4_awake.calls true _ (G.below HG.out (Below.refl _ _)) awake14).mono ?_; rintro e w1 ⟨rfl, hb1⟩; have HB1 := Lib.hid hb1; clear hb1) | (go_at_call 21; refine (HSH.out _).mono ?_; rintro e w2 ⟨rfl, n2, rfl⟩) | (go_at_call 13; refine (HPA.out _).mono ?_; rintro e w3 ⟨v0, v1, rfl, ho0, ho1, hb3⟩; obtain ⟨A1, c1, e1⟩ := Kd.R_slice ho0; obtain ⟨A2, c2, e2⟩ := Kd.R_slice ho1; rw [hln] at e1; rw [hld] at e2; subst e1; subst e2; have HO0 := Lib.hid (Kd.R_reads' ho0); have HO1 := Lib.hid (Kd.R_reads' ho1); have HB3 := Lib.hid (below_step (pw_below_drewN HB1.out _) hb3); clear hb3 ho0 ho1))
 have hb4 := below_alloc (Below.refl w3.heap.size w3) (.cells #[.slice A1 ln c1, .slice A2 ld c2] 27)
 have hk4 := blk_new w3 (.cells #[.slice A1 ln c1, .slice A2 ld c2] 27)
 generalize w3.alloc (.cells #[.slice A1 ln c1, .slice A2 ld c2] 27) = w4 at hb4 hk4 ⊢
 obtain ⟨g4, hg4⟩ : ∃ g4, w3.heap.size = g4 := ⟨_, rfl⟩
 have HB4 := Lib.hid (below_step HB3.out hb4)
 have r1 := Kd.C_below HO0.out.2.2 hb4
 have r2 := Kd.C_below HO1.out.2.2 hb4
 rw [hln] at r1
 rw [hld] at r2
 have l1 := HO0.out.2.1
 have l2 := HO1.out.2.1
 rw [hg4] at hk4 ⊢
 have HK4 := Lib.hid (show w4.heap[g4]? = some (.cells #[.slice A1 ln c1, .slice A2 ld c2] 27 (0, 0)) from hk4)
 have R1 := Lib.hid r1
 have R2 := Lib.hid r2
 have L1 := Lib.hid l1
 have L2 := Lib.hid l2
 clear hb4 hk4 r1 r2 l1 l2 hg4
 rcases HCASE.out with ⟨q1, rfl⟩ | ⟨rfl, m1, m2, hp2, hck⟩
 ·clear HCASE
  go_wp2_with (go_at_call 22; refine (HCA.out _ (G.below HG.out HB4.out)).mono ?_; rintro e w5 ⟨rfl, hb5⟩; have HB5 := Lib.hid (below_step HB4.out hb5); clear hb5)
  go_ret
  exact ⟨rfl, HB5.out⟩
 have HP2 := Lib.hid hp2
 have HCK := Lib.hid hck
 have M1 := Lib.hid m1
 have M2 := Lib.hid m2
 clear HCASE hp2 hck m1 m2
 go_upto_region 8 with (first | (go_at_call 22; refine (HCA.out _ (G.below HG.out HB4.out)).mono ?_; rintro e w5 ⟨rfl, hb5⟩; have HB5 := Lib.hid hb5; clear hb5) | (go_at_call 13; refine (HP2.out _).mono ?_; rintro e w6 ⟨v0, v1, rfl, ho0, ho1, hb6⟩; obtain ⟨A3, c3, e1⟩ := Kd.R_slice ho0; obtain ⟨A4, c4, e2⟩ := Kd.R_slice ho1; rw [hln] at e1; rw [hld] at e2; subst e1; subst e2; have HO3 := Lib.hid (Kd.R_reads' ho0); have HO4 := Lib.hid (Kd.R_reads' ho1); have HB6 := Lib.hid (below_step HB5.out hb6); clear hb6 ho0 ho1))
 have hb7 := below_alloc (Below.refl w6.heap.size w6) (.cells #[.slice A3 ln c3, .slice A4 ld c4] 27)
 have hk7 := blk_new w6 (.cells #[.slice A3 ln c3, .slice A4 ld c4] 27)
 generalize w6.alloc (.cells #[.slice A3 ln c3, .slice A4 ld c4] 27) = w7 at hb7 hk7 ⊢
 obtain ⟨g7, hg7⟩ : ∃ g7, w6.heap.size = g7 := ⟨_, rfl⟩
 have hb47 := below_step HB6.out hb7
 have HB7 := Lib.hid (below_step HB4.out hb47)
 have r3 := Kd.C_below HO3.out.2.2 hb7
 have r4 := Kd.C_below HO4.out.2.2 hb7
 rw [hln] at r3
 rw [hld] at r4
 rw [hg7] at hk7 ⊢
 have S1 := Lib.hid (Kd.C_below R1.out hb47)
 have S2 := Lib.hid (Kd.C_below R2.out hb47)
 have S3 := Lib.hid r3
 have S4 := Lib.hid r4
 have HK47 := blk_below HK4.out hb47
 have CX := Lib.hid (fun (W : World) (hb : Below w7.heap.size w7 W) => (⟨(blk_cell (blk_below HK47 hb) 0).trans (show _ = some (Value.slice A1 ln c1) from rfl), (blk_cell (blk_below HK47 hb) 1).trans (show _ = some (Value.slice A2 ld c2) from rfl), (blk_cell (blk_below hk7 hb) 0).trans (show _ = some (Value.slice A3 ln c3) from rfl), (blk_cell (blk_below hk7 hb) 1).trans (show _ = some (Value.slice A4 ld c4) from rfl)⟩ : W.cell? ⟨g4, 0, none⟩ = some (.slice A1 ln c1) ∧ W.cell? ⟨g4, 1, none⟩ = some (.slice A2 ld c2) ∧ W.cell? ⟨g7, 0, none⟩ = some (.slice A3 ln c3) ∧ W.cell? ⟨g7, 1, none⟩ = some (.slice A4 ld c4)))
 clear hb7 hk7 hg7 r3 r4 hb47 HK47
 obtain ⟨x0, x1, x2, x3⟩ := CX.out w7 (Below.refl _ _)
 go_wp2_with (first | (go_at_call 14; refine (rsame_c hln M1.out hld M2.out S1.out S2.out S3.out S4.out).mono ?_; rintro e w8 ⟨rfl, hb8⟩; have HB8 := Lib.hid hb8; obtain ⟨z0, z1, z2, z3⟩ := CX.out _ hb8; clear hb8) | (go_at_call 19; refine (HCK.out A1 c1 A2 c2 _ (Kd.C_below S1.out HB8.out) L1.out (Kd.C_below S2.out HB8.out) L2.out).mono ?_; rintro e w9 ⟨rfl, hb9⟩; have HB9 := Lib.hid (below_step HB7.out (below_step HB8.out hb9)); clear hb9))
 go_ret
 exact ⟨rfl, HB9.out⟩
end Go.Proofs.YtlhhhlimjajnlaaGreat.X
end
