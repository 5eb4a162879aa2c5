/- Parts of the proof of canonTrees_holds, kept and merged by a program of mine (wip/tools/slim.py) out of my texts: LexF LexG -/
import Derived.Test.YtlhhhlimjajnlaaGreatSPt0
import Derived.Deep.RegionHeld3
import Derived.Test.YtlhhhlimjajnlaaGreatSPt17
section
set_option linter.unusedVariables false
set_option linter.unusedSimpArgs false
namespace Go.Proofs.YtlhhhlimjajnlaaGreat.X
open Go.RowKit Go.Proofs.YtlhhhlimjajnlaaGreat Go.Proofs.YtlhhhlimjajnlaaGreat.Q Go.Proofs.YtlhhhlimjajnlaaGreat.P11 Go.Proofs.YtlhhhlimjajnlaaGreatW.PrintWords Go.Proofs.YtlhhhlimjajnlaaGreatW.PrintLast Go.Proofs.YtlhhhlimjajnlaaGreatW.PrintMore
variable {w0 W : World} {g : Nat} {d : ByteArray} {a : Int} {ts : List Tok} {x : Bool}
def attrP (d : ByteArray) (a : Int) : Option (List Tok × Int) :=
 let l := d.data.toList
 let F := skipP l a
 let E := nameEndP l F
 let Q := skipP l E
 let O := skipP l (Q + 1)
 let c := Lib.cut (l.drop (O + 1).toNat) (partB d O (O + 1)).data.toList
 if F = a then none
 else if E = F then none
 else if standsB d Q ⟨#[61]⟩ = false then none
 else if standsB d O ⟨#[34]⟩ = false ∧ standsB d O ⟨#[39]⟩ = false then none
 else if c.2.2 = false then none
 else if 0 ≤ Lib.indexByte c.1 60 then none
 else match dec c.1 with
  | some v => some ([⟨2, F, O + (c.1.length : Int) + 2, partB d F E, ⟨v.toArray⟩⟩], O + (c.1.length : Int) + 2)
  | none => none
set_option maxHeartbeats 16000000 in
set_option maxRecDepth 100000 in
theorem attr_c (w : World) (h : Rd w0 w g d a ts false) (hG : G w0) (hl : ts.length ≤ 1000000) (hs : d.size ≤ 4294967200) (h0 : 0 ≤ a) (h4 : a ≤ (d.size : Int)) :
 Calls Tryz.prog 110 #[.pointer (some ⟨g, 0, none⟩)] w fun e w' => e = .returned (.tuple #[]) ∧ Step w0 w' g d ts (attrP d a) := by
 have H := Lib.hid h
 have hsz : d.data.toList.length = d.size := (Lib.size_eq d).symm
 obtain ⟨F, hF⟩ : ∃ F, skipP d.data.toList a = F := ⟨_, rfl⟩
 obtain ⟨E, hE⟩ : ∃ E, nameEndP d.data.toList F = E := ⟨_, rfl⟩
 obtain ⟨Q, hQ⟩ : ∃ Q, skipP d.data.toList E = Q := ⟨_, rfl⟩
 obtain ⟨O, hO⟩ : ∃ O, skipP d.data.toList (Q + 1) = O := ⟨_, rfl⟩
 have hF1 := skipP_in d.data.toList a (by omega) (by omega)
 rw [hF] at hF1
 have hE1 := nameEndP_in d.data.toList F (by omega) (by omega)
 rw [hE] at hE1
 have hQ1 := skipP_in d.data.toList E (by omega) (by omega)
 rw [hQ] at hQ1
 have hK0 : ∀ W, Calls Tryz.prog 59 #[.string d, .int .i64 a] W fun e w' => e = .returned (.int .i64 F) ∧ Below W.heap.size W w' := fun W => chars_Skip.calls d a F W (by unfold chars_Skip.f; rw [if_pos (by omega), hF])
 have hN : ∀ W, Calls Tryz.prog 76 #[.string d, .int .i64 F] W fun e w' => e = .returned (.int .i64 E) ∧ Below W.heap.size W w' := fun W => chars_NameEnd.calls d F E W (by unfold chars_NameEnd.f; rw [if_pos (by omega), hE])
 have hKE : ∀ W, Calls Tryz.prog 59 #[.string d, .int .i64 E] W fun e w' => e = .returned (.int .i64 Q) ∧ Below W.heap.size W w' := fun W => chars_Skip.calls d E Q W (by unfold chars_Skip.f; rw [if_pos (by omega), hQ])
 have hKO : ∀ W, Calls Tryz.prog 59 #[.string d, .int .i64 (Q + 1)] W fun e w' => e = .returned (.int .i64 O) ∧ Below W.heap.size W w' := fun W => chars_Skip.calls d (Q + 1) O W (by unfold chars_Skip.f; rw [if_pos (by omega), hO])
 obtain ⟨P, hP⟩ : ∃ P, attrP d a = P := ⟨_, rfl⟩
 rw [hP]
 unfold attrP at hP
 simp only [hF, hE, hQ, hO] at hP
 have hc0 := h.c0
 have hc1 := h.c1
 have hx0 := h.drew.c0
 have hx1 := h.drew.c1
 have hw : IntKind.i64.wrap (Q + 1) = Q + 1 := zz28
 clear h
 by_cases c1 : F = a
 ·rw [if_pos c1] at hP
  subst hP
  have b1 : (F == a) = true := by rw [c1]; exact beq_self_eq_true _
  have b2 := eq_true c1
  clear c1
  go_enter Tryz.func110, Tryz.ntmps110
  go_wp2
  go_region_held3 (fun W => W.cell? ⟨g, 0, none⟩ = some (.string d) ∧ W.cell? ⟨g, 1, none⟩ = some (.int .i64 a)) (first | exact ⟨by assumption, by assumption⟩ | go_keep) ((go_at_call 59; (with_reducible refine (hK0 _).mono ?_); rintro e w1 ⟨rfl, hb_⟩; have H1 := Lib.hid (show Rd w0 w1 g d a ts false from by first | exact H.out.below hb_ | exact (H.out.drewN _).below hb_ | exact (H.out.drew).below hb_); have hd0 := H1.out.c0; have hd1 := H1.out.c1; clear hb_))
  go_wp2_with (first | (go_at_call 76; (with_reducible refine (hN _).mono ?_); rintro e w2 ⟨rfl, hb_⟩; have H2 := Lib.hid (show Rd w0 w2 g d a ts false from by first | exact H1.out.below hb_ | exact (H1.out.drewN _).below hb_ | exact (H1.out.drew).below hb_); have he0 := H2.out.c0; have he1 := H2.out.c1; clear hb_) | (go_at_call 59; (with_reducible refine (hKE _).mono ?_); rintro e w3 ⟨rfl, hb_⟩; have H3 := Lib.hid (show Rd w0 w3 g d a ts false from by first | exact H2.out.below hb_ | exact (H2.out.drewN _).below hb_ | exact (H2.out.drew).below hb_); have hf0 := H3.out.c0; have hf1 := H3.out.c1; clear hb_) | (go_at_call 107; (with_reducible refine (fails_c _ (zz36)).mono ?_); rintro e w' ⟨rfl, hf_⟩))
  first | go_end0 | go_ret | ((try simp only [Exit.inBlock, Exit.then]); refine bodyPost_ret (results_none rfl _ _ _) rfl ?_)
  exact ⟨rfl, _, _, hf_⟩
 rw [if_neg c1] at hP
 have b1 : (F == a) = false := beq_eq_false_iff_ne.2 c1
 have b2 := eq_false c1
 clear c1
 by_cases c2 : E = F
 ·rw [if_pos c2] at hP
  subst hP
  have b3 : (E == F) = true := by rw [c2]; exact beq_self_eq_true _
  have b4 := eq_true c2
  clear c2
  go_enter Tryz.func110, Tryz.ntmps110
  go_wp2
  go_region_held3 (fun W => W.cell? ⟨g, 0, none⟩ = some (.string d) ∧ W.cell? ⟨g, 1, none⟩ = some (.int .i64 a)) (first | exact ⟨by assumption, by assumption⟩ | go_keep) ((go_at_call 59; (with_reducible refine (hK0 _).mono ?_); rintro e w1 ⟨rfl, hb_⟩; have H1 := Lib.hid (show Rd w0 w1 g d a ts false from by first | exact H.out.below hb_ | exact (H.out.drewN _).below hb_ | exact (H.out.drew).below hb_); have hd0 := H1.out.c0; have hd1 := H1.out.c1; clear hb_))
  go_wp2_with (first | (go_at_call 76; (with_reducible refine (hN _).mono ?_); rintro e w2 ⟨rfl, hb_⟩; have H2 := Lib.hid (show Rd w0 w2 g d a ts false from by first | exact H1.out.below hb_ | exact (H1.out.drewN _).below hb_ | exact (H1.out.drew).below hb_); have he0 := H2.out.c0; have he1 := H2.out.c1; clear hb_) | (go_at_call 59; (with_reducible refine (hKE _).mono ?_); rintro e w3 ⟨rfl, hb_⟩; have H3 := Lib.hid (show Rd w0 w3 g d a ts false from by first | exact H2.out.below hb_ | exact (H2.out.drewN _).below hb_ | exact (H2.out.drew).below hb_); have hf0 := H3.out.c0; have hf1 := H3.out.c1; clear hb_) | (go_at_call 107; (with_reducible refine (fails_c _ (zz36)).mono ?_); rintro e w' ⟨rfl, hf_⟩))
  first | go_end0 | go_ret | ((try simp only [Exit.inBlock, Exit.then]); refine bodyPost_ret (results_none rfl _ _ _) rfl ?_)
  exact ⟨rfl, _, _, hf_⟩
 rw [if_neg c2] at hP
 have b3 : (E == F) = false := beq_eq_false_iff_ne.2 c2
 have b4 := eq_false c2
 clear c2
 have hroom := stands_room d Q 61 (by omega)
 obtain ⟨s1, hS1⟩ : ∃ s, standsB d Q ⟨#[61]⟩ = s := ⟨_, rfl⟩
 rw [hS1] at hroom hP
 have HS1 := Lib.hid hS1
 cases s1 with
 | false =>
  rw [if_pos rfl] at hP
  subst hP
  clear hroom
  go_enter Tryz.func110, Tryz.ntmps110
  go_wp2
  go_region_held3 (fun W => W.cell? ⟨g, 0, none⟩ = some (.string d) ∧ W.cell? ⟨g, 1, none⟩ = some (.int .i64 a)) (first | exact ⟨by assumption, by assumption⟩ | go_keep) ((go_at_call 59; (with_reducible refine (hK0 _).mono ?_); rintro e w1 ⟨rfl, hb_⟩; have H1 := Lib.hid (show Rd w0 w1 g d a ts false from by first | exact H.out.below hb_ | exact (H.out.drewN _).below hb_ | exact (H.out.drew).below hb_); have hd0 := H1.out.c0; have hd1 := H1.out.c1; clear hb_))
  go_wp2_with (first | (go_at_call 76; (with_reducible refine (hN _).mono ?_); rintro e w2 ⟨rfl, hb_⟩; have H2 := Lib.hid (show Rd w0 w2 g d a ts false from by first | exact H1.out.below hb_ | exact (H1.out.drewN _).below hb_ | exact (H1.out.drew).below hb_); have he0 := H2.out.c0; have he1 := H2.out.c1; clear hb_) | (go_at_call 59; (with_reducible refine (hKE _).mono ?_); rintro e w3 ⟨rfl, hb_⟩; have H3 := Lib.hid (show Rd w0 w3 g d a ts false from by first | exact H2.out.below hb_ | exact (H2.out.drewN _).below hb_ | exact (H2.out.drew).below hb_); have hf0 := H3.out.c0; have hf1 := H3.out.c1; clear hb_) | (go_at_call 78; (with_reducible refine (stands_c _ (zz36) Q _ (by omega)).mono ?_); rintro e w' ⟨rfl, n_, rfl⟩) | (go_at_call 107; (with_reducible refine (fails_c _ (zz36)).mono ?_); rintro e w' ⟨rfl, hf_⟩))
  first | go_end0 | go_ret | ((try simp only [Exit.inBlock, Exit.then]); refine bodyPost_ret (results_none rfl _ _ _) rfl ?_)
  exact ⟨rfl, _, _, hf_⟩
 | true =>
  rw [if_neg (by decide)] at hP
  have hroom := hroom rfl
  have hO1 := skipP_in d.data.toList (Q + 1) (by omega) (by omega)
  rw [hO] at hO1
  obtain ⟨s2, hS2⟩ : ∃ s, standsB d O ⟨#[34]⟩ = s := ⟨_, rfl⟩
  obtain ⟨s3, hS3⟩ : ∃ s, standsB d O ⟨#[39]⟩ = s := ⟨_, rfl⟩
  have hroom2 := stands_room d O 34 (by omega)
  have hroom3 := stands_room d O 39 (by omega)
  rw [hS2] at hroom2 hP
  rw [hS3] at hroom3 hP
  have HS2 := Lib.hid hS2
  have HS3 := Lib.hid hS3
  by_cases c3 : s2 = false ∧ s3 = false
  ·rw [if_pos c3] at hP
   subst hP
   obtain ⟨rfl, rfl⟩ := c3
   clear hroom2 hroom3
   go_enter Tryz.func110, Tryz.ntmps110
   go_wp2
   go_region_held3 (fun W => W.cell? ⟨g, 0, none⟩ = some (.string d) ∧ W.cell? ⟨g, 1, none⟩ = some (.int .i64 a)) (first | exact ⟨by assumption, by assumption⟩ | go_keep) ((go_at_call 59; (with_reducible refine (hK0 _).mono ?_); rintro e w1 ⟨rfl, hb_⟩; have H1 := Lib.hid (show Rd w0 w1 g d a ts false from by first | exact H.out.below hb_ | exact (H.out.drewN _).below hb_ | exact (H.out.drew).below hb_); have hd0 := H1.out.c0; have hd1 := H1.out.c1; clear hb_))
   go_wp2_with (first | (go_at_call 76; (with_reducible refine (hN _).mono ?_); rintro e w2 ⟨rfl, hb_⟩; have H2 := Lib.hid (show Rd w0 w2 g d a ts false from by first | exact H1.out.below hb_ | exact (H1.out.drewN _).below hb_ | exact (H1.out.drew).below hb_); have he0 := H2.out.c0; have he1 := H2.out.c1; clear hb_) | (go_at_call 59; (with_reducible refine (hKE _).mono ?_); rintro e w3 ⟨rfl, hb_⟩; have H3 := Lib.hid (show Rd w0 w3 g d a ts false from by first | exact H2.out.below hb_ | exact (H2.out.drewN _).below hb_ | exact (H2.out.drew).below hb_); have hf0 := H3.out.c0; have hf1 := H3.out.c1; clear hb_) | (go_at_call 78; (with_reducible refine (stands_c _ (zz36) Q _ (by omega)).mono ?_); rintro e w' ⟨rfl, n_, rfl⟩) | (go_at_call 59; (with_reducible refine (hKO _).mono ?_); rintro e w4 ⟨rfl, hb_⟩; have H4 := Lib.hid (show Rd w0 w4 g d a ts false from by first | exact H3.out.below hb_ | exact (H3.out.drewN _).below hb_ | exact (H3.out.drew).below hb_); have hg0 := H4.out.c0; have hg1 := H4.out.c1; clear hb_) | (go_at_call 78; (with_reducible refine (stands_c _ (by first | exact H4.out | exact H4.out.drewN _) O _ (by omega)).mono ?_); rintro e w' ⟨rfl, n_, rfl⟩) | (go_at_call 107; (with_reducible refine (fails_c _ (by first | exact H4.out | exact H4.out.drewN _)).mono ?_); rintro e w' ⟨rfl, hf_⟩))
   first | go_end0 | go_ret | ((try simp only [Exit.inBlock, Exit.then]); refine bodyPost_ret (results_none rfl _ _ _) rfl ?_)
   exact ⟨rfl, _, _, hf_⟩
  rw [if_neg c3] at hP
  have hO2 : O < (d.size : Int) := by
   cases s2 with
   | true => exact hroom2 rfl
   | false => cases s3 with
    | true => exact hroom3 rfl
    | false => exact absurd ⟨rfl, rfl⟩ c3
  have hqt : s2 = true ∨ (s2 = false ∧ s3 = true) := by
   cases s2 with
   | true => exact .inl rfl
   | false => cases s3 with
    | true => exact .inr ⟨rfl, rfl⟩
    | false => exact absurd ⟨rfl, rfl⟩ c3
  clear c3 hroom2 hroom3 HS1 HS2 HS3
  obtain ⟨B, hB⟩ : ∃ B, d.extract (O + 1).toNat d.size = B := ⟨_, rfl⟩
  obtain ⟨Z, hZ⟩ : ∃ Z, d.extract O.toNat (O + 1).toNat = Z := ⟨_, rfl⟩
  have hZ' : partB d O (O + 1) = Z := hZ
  have hBl : B.data.toList = d.data.toList.drop (O + 1).toNat := by
   rw [← hB, Lib.extract_data, List.take_of_length_le (by rw [List.length_drop, ← Lib.size_eq]; exact Nat.le_refl _)]
  have hBs : B.size ≤ d.size := by rw [Lib.size_eq, hBl, List.length_drop, ← Lib.size_eq]; omega
  obtain ⟨m, hm⟩ := hG
  have hcell : ∀ W, Below w0.heap.size w0 W → W.cell? ⟨0, 0, none⟩ = some (.int .i64 m) := fun W hb => by
   have hlt := World.block_lt_of_cell? _ _ hm
   rw [← hm]; unfold World.cell?
   simp only [hb.block 0 hlt]
  obtain ⟨C1, hC1⟩ : ∃ C1, (⟨(Lib.cut B.data.toList Z.data.toList).1.toArray⟩ : ByteArray) = C1 := ⟨_, rfl⟩
  obtain ⟨C2, hC2⟩ : ∃ C2, (⟨(Lib.cut B.data.toList Z.data.toList).2.1.toArray⟩ : ByteArray) = C2 := ⟨_, rfl⟩
  obtain ⟨q, hq⟩ : ∃ q, (Lib.cut B.data.toList Z.data.toList).2.2 = q := ⟨_, rfl⟩
  have hCx : ∀ W, Below w0.heap.size w0 W → Calls Tryz.prog 109 #[.string B, .string Z] W fun e w' => e = .returned (.tuple #[.string C1, .string C2, .bool q]) ∧ ∃ n, w' = W.drewN n := fun W hb => by
   have := Tryz.strings_Cut B Z m W (by omega) (hcell W hb)
   rw [← hC1, ← hC2, ← hq]; exact this
  have HCx := Lib.hid hCx
  have hC1l : C1.data.toList = (Lib.cut B.data.toList Z.data.toList).1 := by rw [← hC1]
  have hC1s : C1.size ≤ B.size := by
   rw [Lib.size_eq, Lib.size_eq, hC1l]; exact cut_le _ _
  obtain ⟨ct, hct⟩ : ∃ ct, decide (0 ≤ Lib.indexByte C1.data.toList 60) = ct := ⟨_, rfl⟩
  have hCo : ∀ W, Calls Tryz.prog 122 #[.string C1, .string ⟨#[60]⟩] W fun e w' => e = .returned (.bool ct) ∧ w' = W := fun W => by
   have := Tryz.strings_Contains_one C1 60 W
   rw [hct] at this; exact this
  rw [hZ', ← hBl, ← hC1l, hq] at hP
  have hw3 : IntKind.i64.wrap (O + 1) = O + 1 := zz28
  have g0 : decide (0 ≤ O) = true := decide_eq_true (by omega)
  have g1 : decide (0 ≤ O + 1) = true := decide_eq_true (by omega)
  have g2 : decide (O + 1 ≤ (d.size : Int)) = true := decide_eq_true (by omega)
  have g3 : decide (O ≤ O + 1) = true := decide_eq_true (by omega)
  have g0' := eq_true (show 0 ≤ O by omega)
  have g1' := eq_true (show 0 ≤ O + 1 by omega)
  have g2' := eq_true (show O + 1 ≤ (d.size : Int) by omega)
  have g3' := eq_true (show O ≤ O + 1 by omega)
  clear hCx hcell hm hC1 hC2 hF hE hQ hO
  cases q with
  | false =>
   rw [if_pos rfl] at hP
   subst hP
   rcases hqt with rfl | ⟨rfl, rfl⟩
   all_goals
    go_enter Tryz.func110, Tryz.ntmps110
    go_wp2
    go_region_held3 (fun W => W.cell? ⟨g, 0, none⟩ = some (.string d) ∧ W.cell? ⟨g, 1, none⟩ = some (.int .i64 a)) (first | exact ⟨by assumption, by assumption⟩ | go_keep) ((go_at_call 59; (with_reducible refine (hK0 _).mono ?_); rintro e w1 ⟨rfl, hb_⟩; have H1 := Lib.hid (show Rd w0 w1 g d a ts false from by first | exact H.out.below hb_ | exact (H.out.drewN _).below hb_ | exact (H.out.drew).below hb_); have hd0 := H1.out.c0; have hd1 := H1.out.c1; clear hb_))
    go_wp2_with (first | (go_at_call 76; (with_reducible refine (hN _).mono ?_); rintro e w2 ⟨rfl, hb_⟩; have H2 := Lib.hid (show Rd w0 w2 g d a ts false from by first | exact H1.out.below hb_ | exact (H1.out.drewN _).below hb_ | exact (H1.out.drew).below hb_); have he0 := H2.out.c0; have he1 := H2.out.c1; clear hb_) | (go_at_call 59; (with_reducible refine (hKE _).mono ?_); rintro e w3 ⟨rfl, hb_⟩; have H3 := Lib.hid (show Rd w0 w3 g d a ts false from by first | exact H2.out.below hb_ | exact (H2.out.drewN _).below hb_ | exact (H2.out.drew).below hb_); have hf0 := H3.out.c0; have hf1 := H3.out.c1; clear hb_) | (go_at_call 78; (with_reducible refine (stands_c _ (zz36) Q _ (by omega)).mono ?_); rintro e w' ⟨rfl, n_, rfl⟩) | (go_at_call 59; (with_reducible refine (hKO _).mono ?_); rintro e w4 ⟨rfl, hb_⟩; have H4 := Lib.hid (show Rd w0 w4 g d a ts false from by first | exact H3.out.below hb_ | exact (H3.out.drewN _).below hb_ | exact (H3.out.drew).below hb_); have hg0 := H4.out.c0; have hg1 := H4.out.c1; clear hb_) | (go_at_call 78; (with_reducible refine (stands_c _ (by first | exact H4.out | exact H4.out.drewN _) O _ (by omega)).mono ?_); rintro e w' ⟨rfl, n_, rfl⟩))
    go_region_held3 (fun W => W.cell? ⟨g, 0, none⟩ = some (.string d)) (first | assumption | exact Rd.c0 (w0 := w0) (g := g) (d := d) (a := a) (ts := ts) (x := false) (zz19) | go_keep) ((go_at_call 109; refine (HCx.out _ ?_).mono ?_; exact (Rd.bel (g := g) (d := d) (a := a) (ts := ts) (x := false) (zz19)); rintro e w' ⟨rfl, n8, rfl⟩))
    go_wp2_with (first | (go_at_call 107; (with_reducible refine (fails_c _ (by first | exact H4.out | exact H4.out.drewN _)).mono ?_); rintro e w' ⟨rfl, hf_⟩))
    first | go_end0 | go_ret | ((try simp only [Exit.inBlock, Exit.then]); refine bodyPost_ret (results_none rfl _ _ _) rfl ?_)
    exact ⟨rfl, _, _, hf_⟩
  | true =>
   rw [if_neg (by decide)] at hP
   cases ct with
   | true =>
    rw [if_pos (of_decide_eq_true hct)] at hP
    subst hP
    rcases hqt with rfl | ⟨rfl, rfl⟩
    all_goals
     go_enter Tryz.func110, Tryz.ntmps110
     go_wp2
     go_region_held3 (fun W => W.cell? ⟨g, 0, none⟩ = some (.string d) ∧ W.cell? ⟨g, 1, none⟩ = some (.int .i64 a)) (first | exact ⟨by assumption, by assumption⟩ | go_keep) ((go_at_call 59; (with_reducible refine (hK0 _).mono ?_); rintro e w1 ⟨rfl, hb_⟩; have H1 := Lib.hid (show Rd w0 w1 g d a ts false from by first | exact H.out.below hb_ | exact (H.out.drewN _).below hb_ | exact (H.out.drew).below hb_); have hd0 := H1.out.c0; have hd1 := H1.out.c1; clear hb_))
     go_wp2_with (first | (go_at_call 76; (with_reducible refine (hN _).mono ?_); rintro e w2 ⟨rfl, hb_⟩; have H2 := Lib.hid (show Rd w0 w2 g d a ts false from by first | exact H1.out.below hb_ | exact (H1.out.drewN _).below hb_ | exact (H1.out.drew).below hb_); have he0 := H2.out.c0; have he1 := H2.out.c1; clear hb_) | (go_at_call 59; (with_reducible refine (hKE _).mono ?_); rintro e w3 ⟨rfl, hb_⟩; have H3 := Lib.hid (show Rd w0 w3 g d a ts false from by first | exact H2.out.below hb_ | exact (H2.out.drewN _).below hb_ | exact (H2.out.drew).below hb_); have hf0 := H3.out.c0; have hf1 := H3.out.c1; clear hb_) | (go_at_call 78; (with_reducible refine (stands_c _ (zz36) Q _ (by omega)).mono ?_); rintro e w' ⟨rfl, n_, rfl⟩) | (go_at_call 59; (with_reducible refine (hKO _).mono ?_); rintro e w4 ⟨rfl, hb_⟩; have H4 := Lib.hid (show Rd w0 w4 g d a ts false from by first | exact H3.out.below hb_ | exact (H3.out.drewN _).below hb_ | exact (H3.out.drew).below hb_); have hg0 := H4.out.c0; have hg1 := H4.out.c1; clear hb_) | (go_at_call 78; (with_reducible refine (stands_c _ (by first | exact H4.out | exact H4.out.drewN _) O _ (by omega)).mono ?_); rintro e w' ⟨rfl, n_, rfl⟩))
     go_region_held3 (fun W => W.cell? ⟨g, 0, none⟩ = some (.string d)) (first | assumption | exact Rd.c0 (w0 := w0) (g := g) (d := d) (a := a) (ts := ts) (x := false) (zz19) | go_keep) ((go_at_call 109; refine (HCx.out _ ?_).mono ?_; exact (Rd.bel (g := g) (d := d) (a := a) (ts := ts) (x := false) (zz19)); rintro e w' ⟨rfl, n8, rfl⟩))
     go_wp2_with (first | (go_at_call 122; (with_reducible refine (hCo _).mono ?_); rintro e w' ⟨rfl, rfl⟩) | (go_at_call 107; (with_reducible refine (fails_c _ (by first | exact H4.out | exact H4.out.drewN _)).mono ?_); rintro e w' ⟨rfl, hf_⟩))
     first | go_end0 | go_ret | ((try simp only [Exit.inBlock, Exit.then]); refine bodyPost_ret (results_none rfl _ _ _) rfl ?_)
     exact ⟨rfl, _, _, hf_⟩
   | false =>
    rw [if_neg (of_decide_eq_false hct)] at hP
    have hw4 : IntKind.i64.wrap (IntKind.i64.wrap (O + (C1.size : Int)) + 2) = O + (C1.size : Int) + 2 := by rw [IntKind.wrap_i64, IntKind.wrap_i64]; omega
    have k0 : decide (0 ≤ F) = true := decide_eq_true (by omega)
    have k1 : decide (F ≤ E) = true := decide_eq_true (by omega)
    have k2 : decide (E ≤ (d.size : Int)) = true := decide_eq_true (by omega)
    have k0' := eq_true (show 0 ≤ F by omega)
    have k1' := eq_true (show F ≤ E by omega)
    have k2' := eq_true (show E ≤ (d.size : Int) by omega)
    have hS : ∀ w', Rd w0 w' g d (O + (C1.size : Int) + 2) (ts ++ [⟨2, F, O + (C1.size : Int) + 2, partB d F E, decS C1⟩]) (false || decBad C1) → Step w0 w' g d ts P := by
     intro w' hr
     subst hP
     rw [Lib.size_eq] at hr
     cases hd : dec C1.data.toList with
     | none =>
      have : decBad C1 = true := by unfold decBad; rw [hd]; rfl
      rw [this] at hr
      exact ⟨_, _, hr⟩
     | some v =>
      have hb : decBad C1 = false := by unfold decBad; rw [hd]; rfl
      have hv : decS C1 = ⟨v.toArray⟩ := by unfold decS; rw [hd]; rfl
      rw [hb, hv] at hr
      exact hr
    have HS := Lib.hid hS
    clear hS hP
    rcases hqt with rfl | ⟨rfl, rfl⟩
    all_goals
     go_enter Tryz.func110, Tryz.ntmps110
     go_wp2
     go_region_held3 (fun W => W.cell? ⟨g, 0, none⟩ = some (.string d) ∧ W.cell? ⟨g, 1, none⟩ = some (.int .i64 a)) (first | exact ⟨by assumption, by assumption⟩ | go_keep) ((go_at_call 59; (with_reducible refine (hK0 _).mono ?_); rintro e w1 ⟨rfl, hb_⟩; have H1 := Lib.hid (show Rd w0 w1 g d a ts false from by first | exact H.out.below hb_ | exact (H.out.drewN _).below hb_ | exact (H.out.drew).below hb_); have hd0 := H1.out.c0; have hd1 := H1.out.c1; clear hb_))
     go_wp2_with (first | (go_at_call 76; (with_reducible refine (hN _).mono ?_); rintro e w2 ⟨rfl, hb_⟩; have H2 := Lib.hid (show Rd w0 w2 g d a ts false from by first | exact H1.out.below hb_ | exact (H1.out.drewN _).below hb_ | exact (H1.out.drew).below hb_); have he0 := H2.out.c0; have he1 := H2.out.c1; clear hb_) | (go_at_call 59; (with_reducible refine (hKE _).mono ?_); rintro e w3 ⟨rfl, hb_⟩; have H3 := Lib.hid (show Rd w0 w3 g d a ts false from by first | exact H2.out.below hb_ | exact (H2.out.drewN _).below hb_ | exact (H2.out.drew).below hb_); have hf0 := H3.out.c0; have hf1 := H3.out.c1; clear hb_) | (go_at_call 78; (with_reducible refine (stands_c _ (zz36) Q _ (by omega)).mono ?_); rintro e w' ⟨rfl, n_, rfl⟩) | (go_at_call 59; (with_reducible refine (hKO _).mono ?_); rintro e w4 ⟨rfl, hb_⟩; have H4 := Lib.hid (show Rd w0 w4 g d a ts false from by first | exact H3.out.below hb_ | exact (H3.out.drewN _).below hb_ | exact (H3.out.drew).below hb_); have hg0 := H4.out.c0; have hg1 := H4.out.c1; clear hb_) | (go_at_call 78; (with_reducible refine (stands_c _ (by first | exact H4.out | exact H4.out.drewN _) O _ (by omega)).mono ?_); rintro e w' ⟨rfl, n_, rfl⟩))
     go_region_held3 (fun W => W.cell? ⟨g, 0, none⟩ = some (.string d)) (first | assumption | exact Rd.c0 (w0 := w0) (g := g) (d := d) (a := a) (ts := ts) (x := false) (zz19) | go_keep) ((go_at_call 109; refine (HCx.out _ ?_).mono ?_; exact (Rd.bel (g := g) (d := d) (a := a) (ts := ts) (x := false) (zz19)); rintro e w' ⟨rfl, n8, rfl⟩))
     go_wp2_with (first | (go_at_call 122; (with_reducible refine (hCo _).mono ?_); rintro e w' ⟨rfl, rfl⟩))
     go_region_held3 (fun W => W.cell? ⟨g, 0, none⟩ = some (.string d)) (first | assumption | exact Rd.c0 (w0 := w0) (g := g) (d := d) (a := a) (ts := ts) (x := false) (zz19) | go_keep) (first | (go_at_call 111; refine (decode_c (w0 := w0) (g := g) (d := d) (a := a) (ts := ts) (x := false) _ ?_ C1 (by omega)).mono ?_; (first | exact H4.out | exact H4.out.drewN _ | exact H4.out.drew | exact (H4.out.drewN _).drew | exact (H4.out.drewN _).drew.drewN _ | exact H4.out.drew.drewN _ | exact (H4.out.drewN _).drewN _); rintro e w' ⟨rfl, hr⟩; have hc8 := hr.c0) | (go_at_call 108; refine (tell_c (w0 := w0) (g := g) (d := d) (a := a) (ts := ts) (x := false || decBad C1) _ (by assumption) 2 F _ _ _ hl).mono ?_; rintro e w' ⟨rfl, ht⟩; have hc9 := ht.c0))
     all_goals
      go_wp2
      first | go_end0 | ((try simp only [Exit.inBlock, Exit.then]); refine bodyPost_ret (results_none rfl _ _ _) rfl ?_)
      exact ⟨rfl, HS.out _ ht⟩
def attrsF (d : ByteArray) : Nat → Int → List Tok → Option (List Tok × Int)
 | 0, _, _ => none
 | n + 1, a, acc =>
  if standsB d (skipP d.data.toList a) ⟨#[62]⟩ = true then some (acc ++ [⟨3, skipP d.data.toList a, skipP d.data.toList a + 1, ⟨#[]⟩, ⟨#[]⟩⟩], skipP d.data.toList a + 1)
  else if standsB d (skipP d.data.toList a) ⟨#[47, 62]⟩ = true then some (acc ++ [⟨4, skipP d.data.toList a, skipP d.data.toList a + 2, ⟨#[]⟩, ⟨#[]⟩⟩], skipP d.data.toList a + 2)
  else match attrP d a with
   | some (new, a') => attrsF d n a' (acc ++ new)
   | none => none
def tagP (d : ByteArray) (a : Int) : Option (List Tok × Int) :=
 let E := nameEndP d.data.toList (a + 1)
 if E = a + 1 then none else attrsF d (d.size + 1) E [⟨1, a, E, partB d (a + 1) E, ⟨#[]⟩⟩]
theorem stands_room2 (d : ByteArray) (i : Int) (s : ByteArray) (h0 : 0 ≤ i) (hs : 0 < s.size) (h : standsB d i s = true) : i + s.size ≤ (d.size : Int) := by
 unfold standsB Lib.hasPrefix at h
 obtain ⟨t, ht⟩ := List.isPrefixOf_iff_prefix.1 h
 have := congrArg List.length ht
 rw [List.length_append, List.length_drop] at this
 rw [Lib.size_eq d, Lib.size_eq s]
 rw [Lib.size_eq s] at hs
 omega
theorem attr_room (d : ByteArray) (a : Int) (h0 : 0 ≤ a) (h1 : a ≤ (d.size : Int)) (new : List Tok) (a' : Int) (h : attrP d a = some (new, a')) : a < a' ∧ a' ≤ (d.size : Int) ∧ new.length = 1 := by
 have hsz : d.data.toList.length = d.size := (Lib.size_eq d).symm
 unfold attrP at h
 obtain ⟨F, hF⟩ : ∃ F, skipP d.data.toList a = F := ⟨_, rfl⟩
 obtain ⟨E, hE⟩ : ∃ E, nameEndP d.data.toList F = E := ⟨_, rfl⟩
 obtain ⟨Q, hQ⟩ : ∃ Q, skipP d.data.toList E = Q := ⟨_, rfl⟩
 obtain ⟨O, hO⟩ : ∃ O, skipP d.data.toList (Q + 1) = O := ⟨_, rfl⟩
 simp only [hF, hE, hQ, hO] at h
 have hF1 := skipP_in d.data.toList a (by omega) (by omega)
 rw [hF] at hF1
 have hE1 := nameEndP_in d.data.toList F (by omega) (by omega)
 rw [hE] at hE1
 have hQ1 := skipP_in d.data.toList E (by omega) (by omega)
 rw [hQ] at hQ1
 by_cases c1 : F = a
 ·rw [if_pos c1] at h; cases h
 rw [if_neg c1] at h
 by_cases c2 : E = F
 ·rw [if_pos c2] at h; cases h
 rw [if_neg c2] at h
 by_cases c3 : standsB d Q ⟨#[61]⟩ = false
 ·rw [if_pos c3] at h; cases h
 rw [if_neg c3] at h
 have hr1 := stands_room d Q 61 (by omega) (by simpa using c3)
 have hO1 := skipP_in d.data.toList (Q + 1) (by omega) (by omega)
 rw [hO] at hO1
 by_cases c4 : standsB d O ⟨#[34]⟩ = false ∧ standsB d O ⟨#[39]⟩ = false
 ·rw [if_pos c4] at h; cases h
 rw [if_neg c4] at h
 have hr2 : O < (d.size : Int) := by
  by_cases c : standsB d O ⟨#[34]⟩ = true
  ·exact stands_room d O 34 (by omega) c
  ·by_cases c' : standsB d O ⟨#[39]⟩ = true
   ·exact stands_room d O 39 (by omega) c'
   ·exact absurd ⟨by simpa using c, by simpa using c'⟩ c4
 have hsep : (partB d O (O + 1)).data.toList.length = 1 := by
  unfold partB
  rw [Lib.extract_data, List.length_take, List.length_drop]; omega
 obtain ⟨s, hs⟩ : ∃ s, (partB d O (O + 1)).data.toList = s := ⟨_, rfl⟩
 rw [hs] at h hsep
 by_cases c5 : (Lib.cut (d.data.toList.drop (O + 1).toNat) s).2.2 = false
 ·rw [if_pos c5] at h; cases h
 rw [if_neg c5] at h
 by_cases c6 : 0 ≤ Lib.indexByte (Lib.cut (d.data.toList.drop (O + 1).toNat) s).1 60
 ·rw [if_pos c6] at h; cases h
 rw [if_neg c6] at h
 have hcl : ((Lib.cut (d.data.toList.drop (O + 1).toNat) s).1.length : Int) + 1 ≤ ((d.data.toList.drop (O + 1).toNat).length : Int) := by
  unfold Lib.cut at c5 ⊢
  by_cases ci : 0 ≤ Lib.index (d.data.toList.drop (O + 1).toNat) s
  ·rw [if_pos ci]
   have := Lib.index_room _ _ ci
   rw [List.length_take]; omega
  ·rw [if_neg ci] at c5; exact absurd rfl c5
 rw [List.length_drop] at hcl
 cases hd : dec (Lib.cut (d.data.toList.drop (O + 1).toNat) s).1 with
 | none => rw [hd] at h; cases h
 | some v =>
  rw [hd] at h
  injection h with h
  injection h with h2 h3
  subst h3 h2
  refine ⟨by omega, by omega, rfl⟩
def ahead (d : ByteArray) (g : Nat) (w : World) : Nat := match w.cell? ⟨g, 1, none⟩, w.cell? ⟨g, 3, none⟩ with
 | some (.int _ a), some (.bool x) => if x then 0 else ((d.size : Int) - a).toNat + 1
 | _, _ => 0
theorem Rd.ahead_ (h : Rd w0 W g d a ts x) : ahead d g W = if x then 0 else ((d.size : Int) - a).toNat + 1 := by
 unfold ahead
 rw [h.c1, h.c3]
def TagRel (d : ByteArray) (P : Option (List Tok × Int)) (a : Int) (acc : List Tok) : Prop :=
 0 ≤ a ∧ a ≤ (d.size : Int) ∧ (acc.length : Int) ≤ a ∧ ∃ n : Nat, (d.size : Int) - a < n ∧ P = attrsF d n a acc
set_option maxHeartbeats 16000000 in
set_option maxRecDepth 100000 in
theorem tag_c (w : World) (h : Rd w0 w g d a ts false) (hG : G w0) (hl : ts.length ≤ 100000) (hs : d.size ≤ 800000) (h0 : 0 ≤ a) (h4 : a + 1 ≤ (d.size : Int)) :
 Calls Tryz.prog 82 #[.pointer (some ⟨g, 0, none⟩)] w fun e w' => e = .returned (.tuple #[]) ∧ Step w0 w' g d ts (tagP d a) := by
 have H := Lib.hid h
 have hsz : d.data.toList.length = d.size := (Lib.size_eq d).symm
 obtain ⟨E, hE⟩ : ∃ E, nameEndP d.data.toList (a + 1) = E := ⟨_, rfl⟩
 have hE1 := nameEndP_in d.data.toList (a + 1) (by omega) (by omega)
 rw [hE] at hE1
 have hN : ∀ W, Calls Tryz.prog 76 #[.string d, .int .i64 (a + 1)] W fun e w' => e = .returned (.int .i64 E) ∧ Below W.heap.size W w' := fun W => chars_NameEnd.calls d (a + 1) E W (by unfold chars_NameEnd.f; rw [if_pos (by omega), hE])
 obtain ⟨P, hP⟩ : ∃ P, tagP d a = P := ⟨_, rfl⟩
 rw [hP]
 unfold tagP at hP
 simp only [hE] at hP
 have hc0 := h.c0
 have hc1 := h.c1
 have hx0 := h.drew.c0
 have hx1 := h.drew.c1
 have hw : IntKind.i64.wrap (a + 1) = a + 1 := zz28
 have hla : ts.length ≤ 1000000 := by omega
 clear h
 by_cases c1 : E = a + 1
 ·rw [if_pos c1] at hP
  subst hP
  have b1 : (E == a + 1) = true := by rw [c1]; exact beq_self_eq_true _
  have b2 := eq_true c1
  clear c1
  go_enter Tryz.func82, Tryz.ntmps82
  go_step3
  go_wp2
  go_region_held3 (fun W => W.cell? ⟨g, 0, none⟩ = some (.string d) ∧ W.cell? ⟨g, 1, none⟩ = some (.int .i64 a)) (first | exact ⟨by assumption, by assumption⟩ | go_keep) ((go_at_call 76; (with_reducible refine (hN _).mono ?_); rintro e w1 ⟨rfl, hb_⟩; have H1 := Lib.hid (show Rd w0 w1 g d a ts false from by first | exact H.out.below hb_ | exact (H.out.drewN _).below hb_ | exact (H.out.drew).below hb_); have hd0 := H1.out.c0; have hd1 := H1.out.c1; have hd3 := H1.out.c3; clear hb_))
  go_wp2_with ((go_at_call 107; (with_reducible refine (fails_c _ (by first | exact H1.out | exact H1.out.drewN _)).mono ?_); rintro e w' ⟨rfl, hf_⟩))
  (try rw [Exit.noGoto_ret])
  first | go_end0 | go_ret | ((try simp only [Exit.inBlock, Exit.then]); refine bodyPost_ret (results_none rfl _ _ _) rfl ?_)
  exact ⟨rfl, _, _, hf_⟩
 rw [if_neg c1] at hP
 have b1 : (E == a + 1) = false := beq_eq_false_iff_ne.2 c1
 have b2 := eq_false c1
 clear c1
 have g0 : decide (0 ≤ a + 1) = true := decide_eq_true (by omega)
 have g1 : decide (a + 1 ≤ E) = true := decide_eq_true (by omega)
 have g2 : decide (E ≤ (d.size : Int)) = true := decide_eq_true (by omega)
 have g0' := eq_true (show 0 ≤ a + 1 by omega)
 have g1' := eq_true (show a + 1 ≤ E by omega)
 have g2' := eq_true (show E ≤ (d.size : Int) by omega)
 have hT : TagRel d P E [⟨1, a, E, partB d (a + 1) E, ⟨#[]⟩⟩] := ⟨by omega, by omega, by simp; omega, ⟨d.size + 1, by omega, hP.symm⟩⟩
 have HT := Lib.hid hT
 clear hT hP
 go_enter Tryz.func82, Tryz.ntmps82
 go_step3
 go_wp2
 go_region_held3 (fun W => W.cell? ⟨g, 0, none⟩ = some (.string d) ∧ W.cell? ⟨g, 1, none⟩ = some (.int .i64 a)) (first | exact ⟨by assumption, by assumption⟩ | go_keep) ((go_at_call 76; (with_reducible refine (hN _).mono ?_); rintro e w1 ⟨rfl, hb_⟩; have H1 := Lib.hid (show Rd w0 w1 g d a ts false from by first | exact H.out.below hb_ | exact (H.out.drewN _).below hb_ | exact (H.out.drew).below hb_); have hd0 := H1.out.c0; have hd1 := H1.out.c1; have hd3 := H1.out.c3; clear hb_))
 go_wp2
 have hy0 := H1.out.drew.c0
 have hy1 := H1.out.drew.c1
 go_region_with (go_at_call 108; refine (tell_c (w0 := w0) (g := g) (d := d) (a := a) (ts := ts) (x := false) _ (by first | exact H1.out.drewN _ | exact H1.out.drew | exact (H1.out.drewN _).drew | exact H1.out) 1 a _ _ _ hla).mono ?_; rintro e w' ⟨rfl, hr⟩; have hc9 := hr.c0)
 all_goals
  go_wp2
  (try go_step3)
  go_wp2
  have H2 := Lib.hid hr
  clear hr
  go_loopw [3] (fun t wr => (Hid (P = none) ∧ ∃ p ts', Hid (Rd w0 wr g d p ts' true)) ∨ (∃ p acc, Hid (TagRel d P p acc) ∧ Hid (Rd w0 wr g d p (ts ++ acc) false))) (fun t wr => ahead d g wr)
  case atStart => exact .inr ⟨_, _, HT, H2⟩
  case round =>
   clear H2 HT
   rcases hrel with ⟨hPn, p, ts', HR⟩ | ⟨p, acc, hRel, HR⟩
   ·have hc3 := HR.out.c3
    go_wp2
    first | go_end0 | go_ret | (simp only [Exit.noGoto]; go_end0) | (simp only [Exit.noGoto]; refine bodyPost_ret (results_none rfl _ _ _) rfl ?_) | ((try rw [Exit.noGoto_ret]); (try simp only [Exit.inBlock, Exit.then]); refine bodyPost_ret (results_none rfl _ _ _) rfl ?_)
    exact ⟨rfl, by rw [hPn.out]; exact ⟨_, _, HR.out⟩⟩
   ·have hmeas := Lib.hid HR.out.ahead_
    obtain ⟨r1, r2, r3, n, hn, hPn⟩ := hRel.out
    have hc3 := HR.out.c3
    have hz3 := HR.out.drew.c3
    have hz0 := HR.out.drew.c0
    have hz1 := HR.out.drew.c1
    have hv0 := HR.out.c0
    have hv1 := HR.out.c1
    obtain ⟨I, hI⟩ : ∃ I, skipP d.data.toList p = I := ⟨_, rfl⟩
    have hI1 := skipP_in d.data.toList p r1 (by omega)
    rw [hI] at hI1
    have hK : ∀ W, Calls Tryz.prog 59 #[.string d, .int .i64 p] W fun e w' => e = .returned (.int .i64 I) ∧ Below W.heap.size W w' := fun W => chars_Skip.calls d p I W (by unfold chars_Skip.f; rw [if_pos (by omega), hI])
    cases n with
    | zero => omega
    | succ n =>
    unfold attrsF at hPn
    rw [hI] at hPn
    have hw5 : IntKind.i64.wrap (I + 1) = I + 1 := zz28
    have hw6 : IntKind.i64.wrap (I + 2) = I + 2 := zz28
    obtain ⟨s1, hS1⟩ : ∃ s, standsB d I ⟨#[62]⟩ = s := ⟨_, rfl⟩
    obtain ⟨s2, hS2⟩ : ∃ s, standsB d I ⟨#[47, 62]⟩ = s := ⟨_, rfl⟩
    rw [hS1, hS2] at hPn
    cases s1 with
    | true =>
     rw [if_pos rfl] at hPn
     subst hPn
     go_wp2
     go_region_held3 (fun W => W.cell? ⟨g, 0, none⟩ = some (.string d) ∧ W.cell? ⟨g, 1, none⟩ = some (.int .i64 p)) (first | exact ⟨by assumption, by assumption⟩ | go_keep) ((go_at_call 59; (with_reducible refine (hK _).mono ?_); rintro e w1 ⟨rfl, hb_⟩; have H3 := Lib.hid (show Rd w0 w1 g d p (ts ++ acc) false from by first | exact HR.out.below hb_ | exact (HR.out.drewN _).below hb_ | exact (HR.out.drew).below hb_); have he0 := H3.out.c0; have he1 := H3.out.c1; have he3 := H3.out.c3; clear hb_))
     go_wp2_with (first | (go_at_call 78; (with_reducible refine (stands_c _ (zz23) I _ (by omega)).mono ?_); rintro e w' ⟨rfl, n_, rfl⟩) | (go_at_call 108; (with_reducible refine (tell_c (w0 := w0) (g := g) (d := d) (a := p) (ts := ts ++ acc) (x := false) _ (zz23) 3 I _ _ _ (by rw [List.length_append]; omega)).mono ?_); rintro e w' ⟨rfl, ht⟩))
     first | go_end0 | go_ret | (simp only [Exit.noGoto]; go_end0) | (simp only [Exit.noGoto]; refine bodyPost_ret (results_none rfl _ _ _) rfl ?_) | ((try rw [Exit.noGoto_ret]); (try simp only [Exit.inBlock, Exit.then]); refine bodyPost_ret (results_none rfl _ _ _) rfl ?_)
     exact ⟨rfl, by rw [List.append_assoc] at ht; exact ht⟩
    | false =>
     rw [if_neg (by decide)] at hPn
     cases s2 with
     | true =>
      rw [if_pos rfl] at hPn
      subst hPn
      go_wp2
      go_region_held3 (fun W => W.cell? ⟨g, 0, none⟩ = some (.string d) ∧ W.cell? ⟨g, 1, none⟩ = some (.int .i64 p)) (first | exact ⟨by assumption, by assumption⟩ | go_keep) ((go_at_call 59; (with_reducible refine (hK _).mono ?_); rintro e w1 ⟨rfl, hb_⟩; have H3 := Lib.hid (show Rd w0 w1 g d p (ts ++ acc) false from by first | exact HR.out.below hb_ | exact (HR.out.drewN _).below hb_ | exact (HR.out.drew).below hb_); have he0 := H3.out.c0; have he1 := H3.out.c1; have he3 := H3.out.c3; clear hb_))
      go_wp2_with (first | (go_at_call 78; (with_reducible refine (stands_c _ (zz23) I _ (by omega)).mono ?_); rintro e w' ⟨rfl, n_, rfl⟩) | (go_at_call 108; (with_reducible refine (tell_c (w0 := w0) (g := g) (d := d) (a := p) (ts := ts ++ acc) (x := false) _ (zz23) 4 I _ _ _ (by rw [List.length_append]; omega)).mono ?_); rintro e w' ⟨rfl, ht⟩))
      first | go_end0 | go_ret | (simp only [Exit.noGoto]; go_end0) | (simp only [Exit.noGoto]; refine bodyPost_ret (results_none rfl _ _ _) rfl ?_) | ((try rw [Exit.noGoto_ret]); (try simp only [Exit.inBlock, Exit.then]); refine bodyPost_ret (results_none rfl _ _ _) rfl ?_)
      exact ⟨rfl, by rw [List.append_assoc] at ht; exact ht⟩
     | false =>
      rw [if_neg (by decide)] at hPn
      cases hA : attrP d p with
      | none =>
       rw [hA] at hPn
       subst hPn
       go_wp2
       go_region_held3 (fun W => W.cell? ⟨g, 0, none⟩ = some (.string d) ∧ W.cell? ⟨g, 1, none⟩ = some (.int .i64 p)) (first | exact ⟨by assumption, by assumption⟩ | go_keep) ((go_at_call 59; (with_reducible refine (hK _).mono ?_); rintro e w1 ⟨rfl, hb_⟩; have H3 := Lib.hid (show Rd w0 w1 g d p (ts ++ acc) false from by first | exact HR.out.below hb_ | exact (HR.out.drewN _).below hb_ | exact (HR.out.drew).below hb_); have he0 := H3.out.c0; have he1 := H3.out.c1; have he3 := H3.out.c3; clear hb_))
       go_wp2_with (first | (go_at_call 78; (with_reducible refine (stands_c _ (zz23) I _ (by omega)).mono ?_); rintro e w' ⟨rfl, n_, rfl⟩) | (go_at_call 110; (with_reducible refine (attr_c (w0 := w0) (g := g) (d := d) (a := p) (ts := ts ++ acc) _ (zz23) hG (by rw [List.length_append]; omega) (by omega) (by omega) (by omega)).mono ?_); rintro e w4 ⟨rfl, ht⟩))
       rw [hA] at ht
       obtain ⟨a', ts', ht⟩ := ht
       have HA := Lib.hid ht
       clear ht
       go_wp2
       go_roundw
       case rel => exact .inl ⟨Lib.hid (by first | trivial | rfl), _, _, HA⟩
       case measure => rw [hmeas.out, HA.out.ahead_]; simp only [Bool.false_eq_true, if_false, if_true]; omega
      | some v =>
       obtain ⟨new, a'⟩ := v
       rw [hA] at hPn
       have hroom := attr_room d p r1 r2 new a' hA
       go_wp2
       go_region_held3 (fun W => W.cell? ⟨g, 0, none⟩ = some (.string d) ∧ W.cell? ⟨g, 1, none⟩ = some (.int .i64 p)) (first | exact ⟨by assumption, by assumption⟩ | go_keep) ((go_at_call 59; (with_reducible refine (hK _).mono ?_); rintro e w1 ⟨rfl, hb_⟩; have H3 := Lib.hid (show Rd w0 w1 g d p (ts ++ acc) false from by first | exact HR.out.below hb_ | exact (HR.out.drewN _).below hb_ | exact (HR.out.drew).below hb_); have he0 := H3.out.c0; have he1 := H3.out.c1; have he3 := H3.out.c3; clear hb_))
       go_wp2_with (first | (go_at_call 78; (with_reducible refine (stands_c _ (zz23) I _ (by omega)).mono ?_); rintro e w' ⟨rfl, n_, rfl⟩) | (go_at_call 110; (with_reducible refine (attr_c (w0 := w0) (g := g) (d := d) (a := p) (ts := ts ++ acc) _ (zz23) hG (by rw [List.length_append]; omega) (by omega) (by omega) (by omega)).mono ?_); rintro e w4 ⟨rfl, ht⟩))
       rw [hA] at ht
       have HA := Lib.hid (show Rd w0 w4 g d a' (ts ++ (acc ++ new)) false by rw [← List.append_assoc]; exact ht)
       clear ht
       go_wp2
       go_roundw
       case rel => exact .inr ⟨_, _, Lib.hid ⟨by omega, hroom.2.1, by rw [List.length_append]; omega, ⟨n, by omega, hPn⟩⟩, HA⟩
       case measure => rw [hmeas.out, HA.out.ahead_]; simp only [Bool.false_eq_true, if_false, if_true]; omega
end Go.Proofs.YtlhhhlimjajnlaaGreat.X
end
