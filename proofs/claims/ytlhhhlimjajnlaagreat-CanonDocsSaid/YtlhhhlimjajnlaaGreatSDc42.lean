/- Parts of the proof of canonDocs_holds, kept and merged by a program of mine (wip/tools/slim.py) out of my texts: DocsW -/
import Derived.Test.YtlhhhlimjajnlaaGreatSDc36
import Derived.Test.YtlhhhlimjajnlaaGreatSDc41
section
set_option linter.unusedVariables false
set_option linter.unusedSimpArgs false
namespace Go.Proofs.YtlhhhlimjajnlaaGreat.X
open Go.RowKit Go.Maps Go.Proofs.YtlhhhlimjajnlaaGreat Go.Proofs.YtlhhhlimjajnlaaGreat.Q Go.Proofs.YtlhhhlimjajnlaaGreat.P11 Go.Proofs.YtlhhhlimjajnlaaGreat.P14 Go.Proofs.YtlhhhlimjajnlaaGreat.P12 Go.Proofs.YtlhhhlimjajnlaaGreat.R13 Go.Proofs.YtlhhhlimjajnlaaGreat.Ck Go.Proofs.YtlhhhlimjajnlaaGreatW.PrintWords Go.Proofs.YtlhhhlimjajnlaaGreatW.PrintLast Go.Proofs.YtlhhhlimjajnlaaGreatW.PrintMore
attribute [local go_sem] max2_int min2_int max_two min_two   
theorem docs_in {d : ByteArray} (hd : d.size ≤ 200) : ∃ (N : List ByteArray) (D : List Nod) (PE : Int) (CS : ByteArray),
 (∀ W, Calls Tryz.prog 13 #[.string d] W fun e w' => ∃ v0 v1 : Value, e = .returned (.tuple #[.agg #[v0, v1], .int .i64 PE]) ∧ Kd.R Kd.string 9 w' W.heap.size (fun _ => True) v0 N ∧ Kd.R k41 41 w' W.heap.size (fun _ => True) v1 D ∧ Below W.heap.size W w') ∧
 (∀ W, G W → Calls Tryz.prog 22 #[.string d] W fun e w' => e = .returned (.tuple #[.string CS, .int .i64 PE]) ∧ Below W.heap.size W w') ∧
 ((PE != 0) = true ∧ CS = ⟨#[]⟩ ∨ PE = 0 ∧ ∀ A c B d' W, Kd.C Kd.string W A N.length N → N.length ≤ c → Kd.C k41 W B D.length D → D.length ≤ d' → Calls Tryz.prog 18 #[.agg #[.slice A N.length c, .slice B D.length d']] W fun e w' => e = .returned (.tuple #[.string CS, .int .i64 0]) ∧ Below W.heap.size W w') := by
 have hl1 := lexV_len' d
 have hl2 := lexV_tsize d
 have hp : ∀ W, _ := fun W => refparse_c d (by omega) (by omega) W
 by_cases he : (parseV d).2 = 0
 ·have hc := check_parse d he
  have hw := written_short d he
  obtain ⟨z1, z2⟩ := parsed_sizes d he
  obtain ⟨p, e, hF, ho, h0, h5, h6, hpv, -⟩ := parse_fit d he
  have hN : (parseV d).1.1.length ≤ 1000 := by rw [hpv, List.length_map]; exact h6
  have hD : (parseV d).1.2.length ≤ 5000 := by rw [hpv]; show (P13.treeN p).length ≤ 5000; unfold P13.treeN; rw [List.length_map, List.length_zip]; omega
  obtain ⟨⟨⟨N, D⟩, PE⟩, hND⟩ : ∃ r, parseV d = r := ⟨_, rfl⟩
  rw [hND] at hc hw z1 z2 hN hD he
  simp only at hc hw z1 z2 hN hD he
  subst he
  have hcan := canon_out hc (by omega) (fun x hx => Nat.le_trans (z1 x hx) (by omega)) (fun x hx => Nat.le_trans (z2 x hx) (by omega)) d (by omega) hND
  have hwr : writeV N D = (bytesL (endW N D).out, 0) := write_out hc (by omega)
  unfold PP at hp
  rw [hND] at hp
  refine ⟨N, D, 0, _, hp, fun W hG => canon_Canon.calls d _ 0 W hG hcan, .inr ⟨rfl, fun A c B d' W a1 a2 a3 a4 => ?_⟩⟩
  have := refwrite_c a1 a2 a3 a4 (fun x hx => Nat.le_trans (z1 x hx) (by omega)) (fun x hx => Nat.le_trans (z2 x hx) (by omega))
  rw [hwr] at this
  exact this
 ·have hcan : canon_Canon.f d = some (⟨#[]⟩, (parseV d).2) := by
   unfold canon_Canon.f parser_Parse.f
   rw [if_pos (by omega), Option.bind_some]
   simp only
   rw [if_neg he]
  exact ⟨_, _, _, _, hp, fun W hG => canon_Canon.calls d _ _ W hG hcan, .inl ⟨by simpa using he, rfl⟩⟩
set_option maxHeartbeats 8000000 in
set_option maxRecDepth 100000 in
theorem refcanon_c {n : List ByteArray} {dd : List Nod} {d CS : ByteArray} {PE : Int} (hpa : ∀ W, Calls Tryz.prog 13 #[.string d] W fun e w' => ∃ v0 v1 : Value, e = .returned (.tuple #[.agg #[v0, v1], .int .i64 PE]) ∧ Kd.R Kd.string 9 w' W.heap.size (fun _ => True) v0 n ∧ Kd.R k41 41 w' W.heap.size (fun _ => True) v1 dd ∧ Below W.heap.size W w')
 (hcase : (PE != 0) = true ∧ CS = ⟨#[]⟩ ∨ PE = 0 ∧ ∀ A c B d' W, Kd.C Kd.string W A n.length n → n.length ≤ c → Kd.C k41 W B dd.length dd → dd.length ≤ d' → Calls Tryz.prog 18 #[.agg #[.slice A n.length c, .slice B dd.length d']] W fun e w' => e = .returned (.tuple #[.string CS, .int .i64 0]) ∧ Below W.heap.size W w') (w : World) :
 Calls Tryz.prog 23 #[.string d] w fun e w' => e = .returned (.tuple #[.string CS, .int .i64 PE]) ∧ Below w.heap.size w w' := by
 obtain ⟨ln, hln⟩ : ∃ ln, n.length = ln := ⟨_, rfl⟩
 obtain ⟨ld, hld⟩ : ∃ ld, dd.length = ld := ⟨_, rfl⟩
 rw [hln, hld] at hcase
 have HPA := Lib.hid hpa
 have HCASE := Lib.hid hcase
 clear hpa hcase
 go_enter Tryz.func23, Tryz.ntmps23
 go_upto_region 2 with (go_at_call 13; refine (HPA.out _).mono ?_; rintro e w3 ⟨v0, v1, rfl, ho0, ho1, hb3⟩; obtain ⟨A1, c1, e1⟩ := Kd.R_slice ho0; obtain ⟨A2, c2, e2⟩ := Kd.R_slice ho1; rw [hln] at e1; rw [hld] at e2; subst e1; subst e2; have HO0 := Lib.hid (Kd.R_reads' ho0); have HO1 := Lib.hid (Kd.R_reads' ho1); have HB3 := Lib.hid hb3; clear hb3 ho0 ho1)
 have hb4 := below_alloc (Below.refl w3.heap.size w3) (.cells #[.slice A1 ln c1, .slice A2 ld c2] 27)
 have hk4 := blk_new w3 (.cells #[.slice A1 ln c1, .slice A2 ld c2] 27)
 generalize w3.alloc (.cells #[.slice A1 ln c1, .slice A2 ld c2] 27) = w4 at hb4 hk4 ⊢
 obtain ⟨g4, hg4⟩ : ∃ g4, w3.heap.size = g4 := ⟨_, rfl⟩
 have HB4 := Lib.hid (below_step HB3.out hb4)
 have r1 := Kd.C_below HO0.out.2.2 hb4
 have r2 := Kd.C_below HO1.out.2.2 hb4
 rw [hln] at r1
 rw [hld] at r2
 rw [hg4] at hk4 ⊢
 have R1 := Lib.hid r1
 have R2 := Lib.hid r2
 have L1 := Lib.hid HO0.out.2.1
 have L2 := Lib.hid HO1.out.2.1
 have x0 := (blk_cell hk4 0).trans (show _ = some (Value.slice A1 ln c1) from rfl)
 have x1 := (blk_cell hk4 1).trans (show _ = some (Value.slice A2 ld c2) from rfl)
 clear hb4 hk4 r1 r2 hg4
 rcases HCASE.out with ⟨q1, rfl⟩ | ⟨rfl, hwr⟩
 ·clear HCASE
  go_wp2
  go_ret2
  exact ⟨rfl, HB4.out⟩
 have HWR := Lib.hid hwr
 clear HCASE hwr
 go_wp2_with (go_at_call 18; refine (HWR.out A1 c1 A2 c2 _ R1.out L1.out R2.out L2.out).mono ?_; rintro e w5 ⟨rfl, hb5⟩; have HB5 := Lib.hid (below_step HB4.out hb5); clear hb5)
 go_ret2
 exact ⟨rfl, HB5.out⟩
set_option maxHeartbeats 8000000 in
set_option maxRecDepth 100000 in
theorem canonDocs_c (doc : ByteArray) {w : World} (hG : G w) :
 Calls Tryz.prog 5 #[.string doc] w fun e w' => e = .returned (.bool true) ∧ Below w.heap.size w w' := by
 obtain ⟨d, hd, hd2⟩ := cut_f doc 200
 obtain ⟨n, dd, PE, CS, hpa, hca, hcase⟩ := docs_in hd2
 have HCA := Lib.hid hca
 have HRC := Lib.hid (fun W => refcanon_c hpa hcase W)
 have HSH := Lib.hid (fun W => L4_short.calls doc 200 d W hd)
 have HG := Lib.hid hG
 clear hG hpa hca hcase hd hd2
 go_enter Tryz.func5, Tryz.ntmps5
 go_wp2_with (first | (go_at_call 15; refine (L4_awake.calls true _ (G.below HG.out (Below.refl _ _)) awake14).mono ?_; rintro e w1 ⟨rfl, hb1⟩; have HB1 := Lib.hid hb1; clear hb1) | (go_at_call 21; refine (HSH.out _).mono ?_; rintro e w2 ⟨rfl, n2, rfl⟩) | (go_at_call 22; refine (HCA.out _ (G.below HG.out (pw_below_drewN HB1.out _))).mono ?_; rintro e w3 ⟨rfl, hb3⟩; have HB3 := Lib.hid (below_step (pw_below_drewN HB1.out _) hb3); clear hb3) | (go_at_call 23; refine (HRC.out _).mono ?_; rintro e w4 ⟨rfl, hb4⟩; have HB4 := Lib.hid (below_step HB3.out hb4); clear hb4))
 go_ret
 exact ⟨rfl, HB4.out⟩
end Go.Proofs.YtlhhhlimjajnlaaGreat.X
end
