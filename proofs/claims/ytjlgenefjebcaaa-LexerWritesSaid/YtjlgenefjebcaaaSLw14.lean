/- Parts of the proof of lexerWrites_holds, kept and merged by a program of mine (wip/tools/slim.py) out of my texts: LexE LexF LexG LexI P12t P12g P12h P12x -/
import Derived.Deep.RegionHeld3
import Derived.Test.YtjlgenefjebcaaaSLw12
import Derived.Test.YtjlgenefjebcaaaSLw13
import Derived.Test.YtjlgenefjebcaaaSLw9
import Derived.Test.YtjlgenefjebcaaaSLw5
section
set_option linter.unusedVariables false
set_option linter.unusedSimpArgs false
namespace Go.Proofs.Ytjlgenefjebcaaa.X
open Go.RowKit Go.Proofs.Ytjlgenefjebcaaa Go.Proofs.Ytjlgenefjebcaaa.Q Go.Proofs.Ytjlgenefjebcaaa.P11 Go.Proofs.YtjlgenefjebcaaaW.PrintWords Go.Proofs.YtjlgenefjebcaaaW.PrintLast Go.Proofs.YtjlgenefjebcaaaW.PrintMore
variable {w0 W : World} {g : Nat} {d : ByteArray} {a : Int} {ts : List Tok} {x : Bool}
theorem takeWhile_le {α : Type} (p : α → Bool) (l : List α) : (l.takeWhile p).length ≤ l.length := by
  induction l with
  | nil => simp
  | cons c t ih => rw [List.takeWhile_cons]; split <;> simp <;> omega
theorem skipP_in (l : List UInt8) (i : Int) (h0 : 0 ≤ i) (h1 : i ≤ l.length) : i ≤ skipP l i ∧ skipP l i ≤ l.length := by
  unfold skipP
  split
  · have := takeWhile_le spaceB (l.drop i.toNat)
    rw [List.length_drop] at this
    omega
  · omega
theorem nameLen_le (l : List UInt8) : nameLen l ≤ l.length := by
  cases l with
  | nil => simp [nameLen]
  | cons c t =>
    have := takeWhile_le (fun d => nameB d || moreB d) t
    show (if nameB c then 1 + (t.takeWhile fun d => nameB d || moreB d).length else 0) ≤ (c :: t).length
    simp only [List.length_cons]
    split <;> omega
theorem nameEndP_in (l : List UInt8) (i : Int) (h0 : 0 ≤ i) (h1 : i ≤ l.length) : i ≤ nameEndP l i ∧ nameEndP l i ≤ l.length := by
  unfold nameEndP
  split
  · have := nameLen_le (l.drop i.toNat)
    rw [List.length_drop] at this
    omega
  · omega
theorem stands_room (d : ByteArray) (i : Int) (c : UInt8) (h0 : 0 ≤ i) (h : standsB d i ⟨#[c]⟩ = true) : i < (d.size : Int) := by
  unfold standsB Lib.hasPrefix at h
  rw [Lib.size_eq]
  by_cases hlt : i < (d.data.toList.length : Int)
  · exact hlt
  · rw [List.drop_of_length_le (by omega)] at h
    simp at h
def partB (d : ByteArray) (i j : Int) : ByteArray := d.extract i.toNat j.toNat
def closingP (d : ByteArray) (a : Int) : Option (List Tok × Int) :=
  let l := d.data.toList
  let e := nameEndP l (a + 2)
  let t := skipP l e
  if e = a + 2 then none
  else if standsB d t ⟨#[62]⟩ = true then some ([⟨5, a, t + 1, partB d (a + 2) e, ⟨#[]⟩⟩], t + 1) else none
set_option maxHeartbeats 8000000 in
set_option maxRecDepth 100000 in
theorem closing_c (w : World) (h : Rd w0 w g d a ts false) (hl : ts.length ≤ 1000000) (hs : d.size ≤ 4294967280) (h0 : 0 ≤ a) (h4 : a + 2 ≤ (d.size : Int)) :
    Calls Try.prog 58 #[.pointer (some ⟨g, 0, none⟩)] w fun e w' => e = .returned (.tuple #[]) ∧ Step w0 w' g d ts (closingP d a) := by
  have H := Lib.hid h
  have hsz : d.data.toList.length = d.size := (Lib.size_eq d).symm
  obtain ⟨E, hE⟩ : ∃ E, nameEndP d.data.toList (a + 2) = E := ⟨_, rfl⟩
  obtain ⟨T, hT⟩ : ∃ T, skipP d.data.toList E = T := ⟨_, rfl⟩
  have hE1 := nameEndP_in d.data.toList (a + 2) (by omega) (by omega)
  rw [hE] at hE1
  have hT1 := skipP_in d.data.toList E (by omega) (by omega)
  rw [hT] at hT1
  have hN : ∀ W, Calls Try.prog 13 #[.string d, .int .i64 (a + 2)] W fun e w' => e = .returned (.int .i64 E) ∧ Below W.heap.size W w' := fun W => chars_NameEnd.calls d (a + 2) E W (by unfold chars_NameEnd.f; rw [if_pos (by omega), hE])
  have hK : ∀ W, Calls Try.prog 14 #[.string d, .int .i64 E] W fun e w' => e = .returned (.int .i64 T) ∧ Below W.heap.size W w' := fun W => chars_Skip.calls d E T W (by unfold chars_Skip.f; rw [if_pos (by omega), hT])
  have hP : closingP d a = if E = a + 2 then none else if standsB d T ⟨#[62]⟩ = true then some ([⟨5, a, T + 1, partB d (a + 2) E, ⟨#[]⟩⟩], T + 1) else none := by unfold closingP; simp only [hE, hT]
  have hc0 := h.c0
  have hc1 := h.c1
  have hw : IntKind.i64.wrap (a + 2) = a + 2 := by rw [IntKind.wrap_i64]; omega
  have hw2 : IntKind.i64.wrap (T + 1) = T + 1 := by rw [IntKind.wrap_i64]; omega
  rw [hP]
  clear hP
  clear h hE hT
  by_cases c1 : E = a + 2
  · rw [if_pos c1]
    have b1 : (E == a + 2) = true := by rw [c1]; exact beq_self_eq_true _
    have b2 := eq_true c1
    clear c1
    go_enter Try.func58, Try.ntmps58
    go_wp2_with (first | (go_at_call 13; (with_reducible refine (hN _).mono ?_); rintro e w1 ⟨rfl, hb_⟩; have H1 := Lib.hid (show Rd w0 w1 g d a ts false from by first | exact H.out.below hb_ | exact (H.out.drewN _).below hb_); have hd0 := H1.out.c0; have hd1 := H1.out.c1; clear hb_) | (go_at_call 14; (with_reducible refine (hK _).mono ?_); rintro e w2 ⟨rfl, hb_⟩; have H2 := Lib.hid (show Rd w0 w2 g d a ts false from by first | exact H1.out.below hb_ | exact (H1.out.drewN _).below hb_); have he0 := H2.out.c0; have he1 := H2.out.c1; clear hb_) | (go_at_call 68; (with_reducible refine (fails_c _ (by first | exact H2.out | exact H2.out.drewN _)).mono ?_); rintro e w3 ⟨rfl, hf⟩))
    first | go_end0 | go_ret | ((try simp only [Exit.inBlock, Exit.then]); refine bodyPost_ret (results_none rfl _ _ _) rfl ?_)
    exact ⟨rfl, _, _, hf⟩
  rw [if_neg c1]
  have b1 : (E == a + 2) = false := beq_eq_false_iff_ne.2 c1
  have b2 := eq_false c1
  clear c1
  have hroom := stands_room d T 62 (by omega)
  obtain ⟨s, hS⟩ : ∃ s, standsB d T ⟨#[62]⟩ = s := ⟨_, rfl⟩
  rw [hS] at hroom ⊢
  have HS := Lib.hid hS
  cases s with
  | false =>
    rw [if_neg (by decide)]
    clear hroom
    go_enter Try.func58, Try.ntmps58
    go_wp2_with (first | (go_at_call 13; (with_reducible refine (hN _).mono ?_); rintro e w1 ⟨rfl, hb_⟩; have H1 := Lib.hid (show Rd w0 w1 g d a ts false from by first | exact H.out.below hb_ | exact (H.out.drewN _).below hb_); have hd0 := H1.out.c0; have hd1 := H1.out.c1; clear hb_) | (go_at_call 14; (with_reducible refine (hK _).mono ?_); rintro e w2 ⟨rfl, hb_⟩; have H2 := Lib.hid (show Rd w0 w2 g d a ts false from by first | exact H1.out.below hb_ | exact (H1.out.drewN _).below hb_); have he0 := H2.out.c0; have he1 := H2.out.c1; clear hb_) | (go_at_call 55; (with_reducible refine (stands_c _ (by first | exact H2.out | exact H2.out.drewN _) T _ (by omega)).mono ?_); rintro e w' ⟨rfl, n1, rfl⟩) | (go_at_call 68; (with_reducible refine (fails_c _ (by first | exact H2.out | exact H2.out.drewN _)).mono ?_); rintro e w3 ⟨rfl, hf⟩))
    first | go_end0 | go_ret | ((try simp only [Exit.inBlock, Exit.then]); refine bodyPost_ret (results_none rfl _ _ _) rfl ?_)
    exact ⟨rfl, _, _, hf⟩
  | true =>
    rw [if_pos rfl]
    have hroom := hroom rfl
    go_enter Try.func58, Try.ntmps58
    go_wp2_with (first | (go_at_call 13; (with_reducible refine (hN _).mono ?_); rintro e w1 ⟨rfl, hb_⟩; have H1 := Lib.hid (show Rd w0 w1 g d a ts false from by first | exact H.out.below hb_ | exact (H.out.drewN _).below hb_); have hd0 := H1.out.c0; have hd1 := H1.out.c1; clear hb_) | (go_at_call 14; (with_reducible refine (hK _).mono ?_); rintro e w2 ⟨rfl, hb_⟩; have H2 := Lib.hid (show Rd w0 w2 g d a ts false from by first | exact H1.out.below hb_ | exact (H1.out.drewN _).below hb_); have he0 := H2.out.c0; have he1 := H2.out.c1; clear hb_) | (go_at_call 55; (with_reducible refine (stands_c _ (by first | exact H2.out | exact H2.out.drewN _) T _ (by omega)).mono ?_); rintro e w' ⟨rfl, n1, rfl⟩))
    have HR := H2.out.drewN n1
    have hx0 := HR.c0
    have hx1 := HR.c1
    have hy0 := HR.drew.c0
    have hy1 := HR.drew.c1
    clear HR
    have g0 : decide (0 ≤ a + 2) = true := decide_eq_true (by omega)
    have g1 : decide (a + 2 ≤ E) = true := decide_eq_true (by omega)
    have g2 : decide (E ≤ (d.size : Int)) = true := decide_eq_true (by omega)
    have g0' := eq_true (show 0 ≤ a + 2 by omega)
    have g1' := eq_true (show a + 2 ≤ E by omega)
    have g2' := eq_true (show E ≤ (d.size : Int) by omega)
    go_region_with (go_at_call 69; refine (tell_c (w0 := w0) (g := g) (d := d) (a := a) (ts := ts) (x := false) _ (H2.out.drewN _) 5 a _ _ _ hl).mono ?_; rintro e w' ⟨rfl, hr⟩)
    all_goals
      go_wp2
      first | go_end0 | ((try simp only [Exit.inBlock, Exit.then]); refine bodyPost_ret (results_none rfl _ _ _) rfl ?_)
      exact ⟨rfl, hr⟩
end Go.Proofs.Ytjlgenefjebcaaa.X
end
section
set_option linter.unusedVariables false
set_option linter.unusedSimpArgs false
namespace Go.Proofs.Ytjlgenefjebcaaa.X
open Go.RowKit Go.Proofs.Ytjlgenefjebcaaa Go.Proofs.Ytjlgenefjebcaaa.Q Go.Proofs.Ytjlgenefjebcaaa.P11 Go.Proofs.YtjlgenefjebcaaaW.PrintWords Go.Proofs.YtjlgenefjebcaaaW.PrintLast Go.Proofs.YtjlgenefjebcaaaW.PrintMore
variable {w0 W : World} {g : Nat} {d : ByteArray} {a : Int} {ts : List Tok} {x : Bool}
def attrP (d : ByteArray) (a : Int) : Option (List Tok × Int) :=
  let l := d.data.toList
  let F := skipP l a
  let E := nameEndP l F
  let Q := skipP l E
  let O := skipP l (Q + 1)
  let c := Lib.cut (l.drop (O + 1).toNat) (partB d O (O + 1)).data.toList
  if F = a then none
  else if E = F then none
  else if standsB d Q ⟨#[61]⟩ = false then none
  else if standsB d O ⟨#[34]⟩ = false ∧ standsB d O ⟨#[39]⟩ = false then none
  else if c.2.2 = false then none
  else if 0 ≤ Lib.indexByte c.1 60 then none
  else match dec c.1 with
    | some v => some ([⟨2, F, O + (c.1.length : Int) + 2, partB d F E, ⟨v.toArray⟩⟩], O + (c.1.length : Int) + 2)
    | none => none
set_option maxHeartbeats 16000000 in
set_option maxRecDepth 100000 in
theorem attr_c (w : World) (h : Rd w0 w g d a ts false) (hG : G w0) (hl : ts.length ≤ 1000000) (hs : d.size ≤ 4294967200) (h0 : 0 ≤ a) (h4 : a ≤ (d.size : Int)) :
    Calls Try.prog 70 #[.pointer (some ⟨g, 0, none⟩)] w fun e w' => e = .returned (.tuple #[]) ∧ Step w0 w' g d ts (attrP d a) := by
  have H := Lib.hid h
  have hsz : d.data.toList.length = d.size := (Lib.size_eq d).symm
  obtain ⟨F, hF⟩ : ∃ F, skipP d.data.toList a = F := ⟨_, rfl⟩
  obtain ⟨E, hE⟩ : ∃ E, nameEndP d.data.toList F = E := ⟨_, rfl⟩
  obtain ⟨Q, hQ⟩ : ∃ Q, skipP d.data.toList E = Q := ⟨_, rfl⟩
  obtain ⟨O, hO⟩ : ∃ O, skipP d.data.toList (Q + 1) = O := ⟨_, rfl⟩
  have hF1 := skipP_in d.data.toList a (by omega) (by omega)
  rw [hF] at hF1
  have hE1 := nameEndP_in d.data.toList F (by omega) (by omega)
  rw [hE] at hE1
  have hQ1 := skipP_in d.data.toList E (by omega) (by omega)
  rw [hQ] at hQ1
  have hK0 : ∀ W, Calls Try.prog 14 #[.string d, .int .i64 a] W fun e w' => e = .returned (.int .i64 F) ∧ Below W.heap.size W w' := fun W => chars_Skip.calls d a F W (by unfold chars_Skip.f; rw [if_pos (by omega), hF])
  have hN : ∀ W, Calls Try.prog 13 #[.string d, .int .i64 F] W fun e w' => e = .returned (.int .i64 E) ∧ Below W.heap.size W w' := fun W => chars_NameEnd.calls d F E W (by unfold chars_NameEnd.f; rw [if_pos (by omega), hE])
  have hKE : ∀ W, Calls Try.prog 14 #[.string d, .int .i64 E] W fun e w' => e = .returned (.int .i64 Q) ∧ Below W.heap.size W w' := fun W => chars_Skip.calls d E Q W (by unfold chars_Skip.f; rw [if_pos (by omega), hQ])
  have hKO : ∀ W, Calls Try.prog 14 #[.string d, .int .i64 (Q + 1)] W fun e w' => e = .returned (.int .i64 O) ∧ Below W.heap.size W w' := fun W => chars_Skip.calls d (Q + 1) O W (by unfold chars_Skip.f; rw [if_pos (by omega), hO])
  obtain ⟨P, hP⟩ : ∃ P, attrP d a = P := ⟨_, rfl⟩
  rw [hP]
  unfold attrP at hP
  simp only [hF, hE, hQ, hO] at hP
  have hc0 := h.c0
  have hc1 := h.c1
  have hx0 := h.drew.c0
  have hx1 := h.drew.c1
  have hw : IntKind.i64.wrap (Q + 1) = Q + 1 := by rw [IntKind.wrap_i64]; omega
  clear h
  by_cases c1 : F = a
  · rw [if_pos c1] at hP
    subst hP
    have b1 : (F == a) = true := by rw [c1]; exact beq_self_eq_true _
    have b2 := eq_true c1
    clear c1
    go_enter Try.func70, Try.ntmps70
    go_wp2
    go_region_held3 (fun W => W.cell? ⟨g, 0, none⟩ = some (.string d) ∧ W.cell? ⟨g, 1, none⟩ = some (.int .i64 a)) (first | exact ⟨by assumption, by assumption⟩ | go_keep) ((go_at_call 14; (with_reducible refine (hK0 _).mono ?_); rintro e w1 ⟨rfl, hb_⟩; have H1 := Lib.hid (show Rd w0 w1 g d a ts false from by first | exact H.out.below hb_ | exact (H.out.drewN _).below hb_ | exact (H.out.drew).below hb_); have hd0 := H1.out.c0; have hd1 := H1.out.c1; clear hb_))
    go_wp2_with (first | (go_at_call 13; (with_reducible refine (hN _).mono ?_); rintro e w2 ⟨rfl, hb_⟩; have H2 := Lib.hid (show Rd w0 w2 g d a ts false from by first | exact H1.out.below hb_ | exact (H1.out.drewN _).below hb_ | exact (H1.out.drew).below hb_); have he0 := H2.out.c0; have he1 := H2.out.c1; clear hb_) | (go_at_call 14; (with_reducible refine (hKE _).mono ?_); rintro e w3 ⟨rfl, hb_⟩; have H3 := Lib.hid (show Rd w0 w3 g d a ts false from by first | exact H2.out.below hb_ | exact (H2.out.drewN _).below hb_ | exact (H2.out.drew).below hb_); have hf0 := H3.out.c0; have hf1 := H3.out.c1; clear hb_) | (go_at_call 68; (with_reducible refine (fails_c _ (by first | exact H3.out | exact H3.out.drewN _)).mono ?_); rintro e w' ⟨rfl, hf_⟩))
    first | go_end0 | go_ret | ((try simp only [Exit.inBlock, Exit.then]); refine bodyPost_ret (results_none rfl _ _ _) rfl ?_)
    exact ⟨rfl, _, _, hf_⟩
  rw [if_neg c1] at hP
  have b1 : (F == a) = false := beq_eq_false_iff_ne.2 c1
  have b2 := eq_false c1
  clear c1
  by_cases c2 : E = F
  · rw [if_pos c2] at hP
    subst hP
    have b3 : (E == F) = true := by rw [c2]; exact beq_self_eq_true _
    have b4 := eq_true c2
    clear c2
    go_enter Try.func70, Try.ntmps70
    go_wp2
    go_region_held3 (fun W => W.cell? ⟨g, 0, none⟩ = some (.string d) ∧ W.cell? ⟨g, 1, none⟩ = some (.int .i64 a)) (first | exact ⟨by assumption, by assumption⟩ | go_keep) ((go_at_call 14; (with_reducible refine (hK0 _).mono ?_); rintro e w1 ⟨rfl, hb_⟩; have H1 := Lib.hid (show Rd w0 w1 g d a ts false from by first | exact H.out.below hb_ | exact (H.out.drewN _).below hb_ | exact (H.out.drew).below hb_); have hd0 := H1.out.c0; have hd1 := H1.out.c1; clear hb_))
    go_wp2_with (first | (go_at_call 13; (with_reducible refine (hN _).mono ?_); rintro e w2 ⟨rfl, hb_⟩; have H2 := Lib.hid (show Rd w0 w2 g d a ts false from by first | exact H1.out.below hb_ | exact (H1.out.drewN _).below hb_ | exact (H1.out.drew).below hb_); have he0 := H2.out.c0; have he1 := H2.out.c1; clear hb_) | (go_at_call 14; (with_reducible refine (hKE _).mono ?_); rintro e w3 ⟨rfl, hb_⟩; have H3 := Lib.hid (show Rd w0 w3 g d a ts false from by first | exact H2.out.below hb_ | exact (H2.out.drewN _).below hb_ | exact (H2.out.drew).below hb_); have hf0 := H3.out.c0; have hf1 := H3.out.c1; clear hb_) | (go_at_call 68; (with_reducible refine (fails_c _ (by first | exact H3.out | exact H3.out.drewN _)).mono ?_); rintro e w' ⟨rfl, hf_⟩))
    first | go_end0 | go_ret | ((try simp only [Exit.inBlock, Exit.then]); refine bodyPost_ret (results_none rfl _ _ _) rfl ?_)
    exact ⟨rfl, _, _, hf_⟩
  rw [if_neg c2] at hP
  have b3 : (E == F) = false := beq_eq_false_iff_ne.2 c2
  have b4 := eq_false c2
  clear c2
  have hroom := stands_room d Q 61 (by omega)
  obtain ⟨s1, hS1⟩ : ∃ s, standsB d Q ⟨#[61]⟩ = s := ⟨_, rfl⟩
  rw [hS1] at hroom hP
  have HS1 := Lib.hid hS1
  cases s1 with
  | false =>
    rw [if_pos rfl] at hP
    subst hP
    clear hroom
    go_enter Try.func70, Try.ntmps70
    go_wp2
    go_region_held3 (fun W => W.cell? ⟨g, 0, none⟩ = some (.string d) ∧ W.cell? ⟨g, 1, none⟩ = some (.int .i64 a)) (first | exact ⟨by assumption, by assumption⟩ | go_keep) ((go_at_call 14; (with_reducible refine (hK0 _).mono ?_); rintro e w1 ⟨rfl, hb_⟩; have H1 := Lib.hid (show Rd w0 w1 g d a ts false from by first | exact H.out.below hb_ | exact (H.out.drewN _).below hb_ | exact (H.out.drew).below hb_); have hd0 := H1.out.c0; have hd1 := H1.out.c1; clear hb_))
    go_wp2_with (first | (go_at_call 13; (with_reducible refine (hN _).mono ?_); rintro e w2 ⟨rfl, hb_⟩; have H2 := Lib.hid (show Rd w0 w2 g d a ts false from by first | exact H1.out.below hb_ | exact (H1.out.drewN _).below hb_ | exact (H1.out.drew).below hb_); have he0 := H2.out.c0; have he1 := H2.out.c1; clear hb_) | (go_at_call 14; (with_reducible refine (hKE _).mono ?_); rintro e w3 ⟨rfl, hb_⟩; have H3 := Lib.hid (show Rd w0 w3 g d a ts false from by first | exact H2.out.below hb_ | exact (H2.out.drewN _).below hb_ | exact (H2.out.drew).below hb_); have hf0 := H3.out.c0; have hf1 := H3.out.c1; clear hb_) | (go_at_call 55; (with_reducible refine (stands_c _ (by first | exact H3.out | exact H3.out.drewN _) Q _ (by omega)).mono ?_); rintro e w' ⟨rfl, n_, rfl⟩) | (go_at_call 68; (with_reducible refine (fails_c _ (by first | exact H3.out | exact H3.out.drewN _)).mono ?_); rintro e w' ⟨rfl, hf_⟩))
    first | go_end0 | go_ret | ((try simp only [Exit.inBlock, Exit.then]); refine bodyPost_ret (results_none rfl _ _ _) rfl ?_)
    exact ⟨rfl, _, _, hf_⟩
  | true =>
    rw [if_neg (by decide)] at hP
    have hroom := hroom rfl
    have hO1 := skipP_in d.data.toList (Q + 1) (by omega) (by omega)
    rw [hO] at hO1
    obtain ⟨s2, hS2⟩ : ∃ s, standsB d O ⟨#[34]⟩ = s := ⟨_, rfl⟩
    obtain ⟨s3, hS3⟩ : ∃ s, standsB d O ⟨#[39]⟩ = s := ⟨_, rfl⟩
    have hroom2 := stands_room d O 34 (by omega)
    have hroom3 := stands_room d O 39 (by omega)
    rw [hS2] at hroom2 hP
    rw [hS3] at hroom3 hP
    have HS2 := Lib.hid hS2
    have HS3 := Lib.hid hS3
    by_cases c3 : s2 = false ∧ s3 = false
    · rw [if_pos c3] at hP
      subst hP
      obtain ⟨rfl, rfl⟩ := c3
      clear hroom2 hroom3
      go_enter Try.func70, Try.ntmps70
      go_wp2
      go_region_held3 (fun W => W.cell? ⟨g, 0, none⟩ = some (.string d) ∧ W.cell? ⟨g, 1, none⟩ = some (.int .i64 a)) (first | exact ⟨by assumption, by assumption⟩ | go_keep) ((go_at_call 14; (with_reducible refine (hK0 _).mono ?_); rintro e w1 ⟨rfl, hb_⟩; have H1 := Lib.hid (show Rd w0 w1 g d a ts false from by first | exact H.out.below hb_ | exact (H.out.drewN _).below hb_ | exact (H.out.drew).below hb_); have hd0 := H1.out.c0; have hd1 := H1.out.c1; clear hb_))
      go_wp2_with (first | (go_at_call 13; (with_reducible refine (hN _).mono ?_); rintro e w2 ⟨rfl, hb_⟩; have H2 := Lib.hid (show Rd w0 w2 g d a ts false from by first | exact H1.out.below hb_ | exact (H1.out.drewN _).below hb_ | exact (H1.out.drew).below hb_); have he0 := H2.out.c0; have he1 := H2.out.c1; clear hb_) | (go_at_call 14; (with_reducible refine (hKE _).mono ?_); rintro e w3 ⟨rfl, hb_⟩; have H3 := Lib.hid (show Rd w0 w3 g d a ts false from by first | exact H2.out.below hb_ | exact (H2.out.drewN _).below hb_ | exact (H2.out.drew).below hb_); have hf0 := H3.out.c0; have hf1 := H3.out.c1; clear hb_) | (go_at_call 55; (with_reducible refine (stands_c _ (by first | exact H3.out | exact H3.out.drewN _) Q _ (by omega)).mono ?_); rintro e w' ⟨rfl, n_, rfl⟩) | (go_at_call 14; (with_reducible refine (hKO _).mono ?_); rintro e w4 ⟨rfl, hb_⟩; have H4 := Lib.hid (show Rd w0 w4 g d a ts false from by first | exact H3.out.below hb_ | exact (H3.out.drewN _).below hb_ | exact (H3.out.drew).below hb_); have hg0 := H4.out.c0; have hg1 := H4.out.c1; clear hb_) | (go_at_call 55; (with_reducible refine (stands_c _ (by first | exact H4.out | exact H4.out.drewN _) O _ (by omega)).mono ?_); rintro e w' ⟨rfl, n_, rfl⟩) | (go_at_call 68; (with_reducible refine (fails_c _ (by first | exact H4.out | exact H4.out.drewN _)).mono ?_); rintro e w' ⟨rfl, hf_⟩))
      first | go_end0 | go_ret | ((try simp only [Exit.inBlock, Exit.then]); refine bodyPost_ret (results_none rfl _ _ _) rfl ?_)
      exact ⟨rfl, _, _, hf_⟩
    rw [if_neg c3] at hP
    have hO2 : O < (d.size : Int) := by
      cases s2 with
      | true => exact hroom2 rfl
      | false => cases s3 with
        | true => exact hroom3 rfl
        | false => exact absurd ⟨rfl, rfl⟩ c3
    have hqt : s2 = true ∨ (s2 = false ∧ s3 = true) := by
      cases s2 with
      | true => exact .inl rfl
      | false => cases s3 with
        | true => exact .inr ⟨rfl, rfl⟩
        | false => exact absurd ⟨rfl, rfl⟩ c3
    clear c3 hroom2 hroom3 HS1 HS2 HS3
    obtain ⟨B, hB⟩ : ∃ B, d.extract (O + 1).toNat d.size = B := ⟨_, rfl⟩
    obtain ⟨Z, hZ⟩ : ∃ Z, d.extract O.toNat (O + 1).toNat = Z := ⟨_, rfl⟩
    have hZ' : partB d O (O + 1) = Z := hZ
    have hBl : B.data.toList = d.data.toList.drop (O + 1).toNat := by
      rw [← hB, Lib.extract_data, List.take_of_length_le (by rw [List.length_drop, ← Lib.size_eq]; exact Nat.le_refl _)]
    have hBs : B.size ≤ d.size := by rw [Lib.size_eq, hBl, List.length_drop, ← Lib.size_eq]; omega
    obtain ⟨m, hm⟩ := hG
    have hcell : ∀ W, Below w0.heap.size w0 W → W.cell? ⟨0, 0, none⟩ = some (.int .i64 m) := fun W hb => by
      have hlt := World.block_lt_of_cell? _ _ hm
      rw [← hm]; unfold World.cell?
      simp only [hb.block 0 hlt]
    obtain ⟨C1, hC1⟩ : ∃ C1, (⟨(Lib.cut B.data.toList Z.data.toList).1.toArray⟩ : ByteArray) = C1 := ⟨_, rfl⟩
    obtain ⟨C2, hC2⟩ : ∃ C2, (⟨(Lib.cut B.data.toList Z.data.toList).2.1.toArray⟩ : ByteArray) = C2 := ⟨_, rfl⟩
    obtain ⟨q, hq⟩ : ∃ q, (Lib.cut B.data.toList Z.data.toList).2.2 = q := ⟨_, rfl⟩
    have hCx : ∀ W, Below w0.heap.size w0 W → Calls Try.prog 26 #[.string B, .string Z] W fun e w' => e = .returned (.tuple #[.string C1, .string C2, .bool q]) ∧ ∃ n, w' = W.drewN n := fun W hb => by
      have := Try.strings_Cut B Z m W (by omega) (hcell W hb)
      rw [← hC1, ← hC2, ← hq]; exact this
    have HCx := Lib.hid hCx
    have hC1l : C1.data.toList = (Lib.cut B.data.toList Z.data.toList).1 := by rw [← hC1]
    have hC1s : C1.size ≤ B.size := by
      rw [Lib.size_eq, Lib.size_eq, hC1l]; exact cut_le _ _
    obtain ⟨ct, hct⟩ : ∃ ct, decide (0 ≤ Lib.indexByte C1.data.toList 60) = ct := ⟨_, rfl⟩
    have hCo : ∀ W, Calls Try.prog 75 #[.string C1, .string ⟨#[60]⟩] W fun e w' => e = .returned (.bool ct) ∧ w' = W := fun W => by
      have := Try.strings_Contains_one C1 60 W
      rw [hct] at this; exact this
    rw [hZ', ← hBl, ← hC1l, hq] at hP
    have hw3 : IntKind.i64.wrap (O + 1) = O + 1 := by rw [IntKind.wrap_i64]; omega
    have g0 : decide (0 ≤ O) = true := decide_eq_true (by omega)
    have g1 : decide (0 ≤ O + 1) = true := decide_eq_true (by omega)
    have g2 : decide (O + 1 ≤ (d.size : Int)) = true := decide_eq_true (by omega)
    have g3 : decide (O ≤ O + 1) = true := decide_eq_true (by omega)
    have g0' := eq_true (show 0 ≤ O by omega)
    have g1' := eq_true (show 0 ≤ O + 1 by omega)
    have g2' := eq_true (show O + 1 ≤ (d.size : Int) by omega)
    have g3' := eq_true (show O ≤ O + 1 by omega)
    clear hCx hcell hm hC1 hC2 hF hE hQ hO
    cases q with
    | false =>
      rw [if_pos rfl] at hP
      subst hP
      rcases hqt with rfl | ⟨rfl, rfl⟩
      all_goals
        go_enter Try.func70, Try.ntmps70
        go_wp2
        go_region_held3 (fun W => W.cell? ⟨g, 0, none⟩ = some (.string d) ∧ W.cell? ⟨g, 1, none⟩ = some (.int .i64 a)) (first | exact ⟨by assumption, by assumption⟩ | go_keep) ((go_at_call 14; (with_reducible refine (hK0 _).mono ?_); rintro e w1 ⟨rfl, hb_⟩; have H1 := Lib.hid (show Rd w0 w1 g d a ts false from by first | exact H.out.below hb_ | exact (H.out.drewN _).below hb_ | exact (H.out.drew).below hb_); have hd0 := H1.out.c0; have hd1 := H1.out.c1; clear hb_))
        go_wp2_with (first | (go_at_call 13; (with_reducible refine (hN _).mono ?_); rintro e w2 ⟨rfl, hb_⟩; have H2 := Lib.hid (show Rd w0 w2 g d a ts false from by first | exact H1.out.below hb_ | exact (H1.out.drewN _).below hb_ | exact (H1.out.drew).below hb_); have he0 := H2.out.c0; have he1 := H2.out.c1; clear hb_) | (go_at_call 14; (with_reducible refine (hKE _).mono ?_); rintro e w3 ⟨rfl, hb_⟩; have H3 := Lib.hid (show Rd w0 w3 g d a ts false from by first | exact H2.out.below hb_ | exact (H2.out.drewN _).below hb_ | exact (H2.out.drew).below hb_); have hf0 := H3.out.c0; have hf1 := H3.out.c1; clear hb_) | (go_at_call 55; (with_reducible refine (stands_c _ (by first | exact H3.out | exact H3.out.drewN _) Q _ (by omega)).mono ?_); rintro e w' ⟨rfl, n_, rfl⟩) | (go_at_call 14; (with_reducible refine (hKO _).mono ?_); rintro e w4 ⟨rfl, hb_⟩; have H4 := Lib.hid (show Rd w0 w4 g d a ts false from by first | exact H3.out.below hb_ | exact (H3.out.drewN _).below hb_ | exact (H3.out.drew).below hb_); have hg0 := H4.out.c0; have hg1 := H4.out.c1; clear hb_) | (go_at_call 55; (with_reducible refine (stands_c _ (by first | exact H4.out | exact H4.out.drewN _) O _ (by omega)).mono ?_); rintro e w' ⟨rfl, n_, rfl⟩))
        go_region_held3 (fun W => W.cell? ⟨g, 0, none⟩ = some (.string d)) (first | assumption | exact Rd.c0 (w0 := w0) (g := g) (d := d) (a := a) (ts := ts) (x := false) (by first | exact H4.out | exact H4.out.drewN _ | exact H4.out.drew | exact (H4.out.drewN _).drew | exact (H4.out.drewN _).drew.drewN _ | exact H4.out.drew.drewN _ | exact (H4.out.drewN _).drewN _) | go_keep) ((go_at_call 26; refine (HCx.out _ ?_).mono ?_; exact (Rd.bel (g := g) (d := d) (a := a) (ts := ts) (x := false) (by first | exact H4.out | exact H4.out.drewN _ | exact H4.out.drew | exact (H4.out.drewN _).drew | exact (H4.out.drewN _).drew.drewN _ | exact H4.out.drew.drewN _ | exact (H4.out.drewN _).drewN _)); rintro e w' ⟨rfl, n8, rfl⟩))
        go_wp2_with (first | (go_at_call 68; (with_reducible refine (fails_c _ (by first | exact H4.out | exact H4.out.drewN _)).mono ?_); rintro e w' ⟨rfl, hf_⟩))
        first | go_end0 | go_ret | ((try simp only [Exit.inBlock, Exit.then]); refine bodyPost_ret (results_none rfl _ _ _) rfl ?_)
        exact ⟨rfl, _, _, hf_⟩
    | true =>
      rw [if_neg (by decide)] at hP
      cases ct with
      | true =>
        rw [if_pos (of_decide_eq_true hct)] at hP
        subst hP
        rcases hqt with rfl | ⟨rfl, rfl⟩
        all_goals
          go_enter Try.func70, Try.ntmps70
          go_wp2
          go_region_held3 (fun W => W.cell? ⟨g, 0, none⟩ = some (.string d) ∧ W.cell? ⟨g, 1, none⟩ = some (.int .i64 a)) (first | exact ⟨by assumption, by assumption⟩ | go_keep) ((go_at_call 14; (with_reducible refine (hK0 _).mono ?_); rintro e w1 ⟨rfl, hb_⟩; have H1 := Lib.hid (show Rd w0 w1 g d a ts false from by first | exact H.out.below hb_ | exact (H.out.drewN _).below hb_ | exact (H.out.drew).below hb_); have hd0 := H1.out.c0; have hd1 := H1.out.c1; clear hb_))
          go_wp2_with (first | (go_at_call 13; (with_reducible refine (hN _).mono ?_); rintro e w2 ⟨rfl, hb_⟩; have H2 := Lib.hid (show Rd w0 w2 g d a ts false from by first | exact H1.out.below hb_ | exact (H1.out.drewN _).below hb_ | exact (H1.out.drew).below hb_); have he0 := H2.out.c0; have he1 := H2.out.c1; clear hb_) | (go_at_call 14; (with_reducible refine (hKE _).mono ?_); rintro e w3 ⟨rfl, hb_⟩; have H3 := Lib.hid (show Rd w0 w3 g d a ts false from by first | exact H2.out.below hb_ | exact (H2.out.drewN _).below hb_ | exact (H2.out.drew).below hb_); have hf0 := H3.out.c0; have hf1 := H3.out.c1; clear hb_) | (go_at_call 55; (with_reducible refine (stands_c _ (by first | exact H3.out | exact H3.out.drewN _) Q _ (by omega)).mono ?_); rintro e w' ⟨rfl, n_, rfl⟩) | (go_at_call 14; (with_reducible refine (hKO _).mono ?_); rintro e w4 ⟨rfl, hb_⟩; have H4 := Lib.hid (show Rd w0 w4 g d a ts false from by first | exact H3.out.below hb_ | exact (H3.out.drewN _).below hb_ | exact (H3.out.drew).below hb_); have hg0 := H4.out.c0; have hg1 := H4.out.c1; clear hb_) | (go_at_call 55; (with_reducible refine (stands_c _ (by first | exact H4.out | exact H4.out.drewN _) O _ (by omega)).mono ?_); rintro e w' ⟨rfl, n_, rfl⟩))
          go_region_held3 (fun W => W.cell? ⟨g, 0, none⟩ = some (.string d)) (first | assumption | exact Rd.c0 (w0 := w0) (g := g) (d := d) (a := a) (ts := ts) (x := false) (by first | exact H4.out | exact H4.out.drewN _ | exact H4.out.drew | exact (H4.out.drewN _).drew | exact (H4.out.drewN _).drew.drewN _ | exact H4.out.drew.drewN _ | exact (H4.out.drewN _).drewN _) | go_keep) ((go_at_call 26; refine (HCx.out _ ?_).mono ?_; exact (Rd.bel (g := g) (d := d) (a := a) (ts := ts) (x := false) (by first | exact H4.out | exact H4.out.drewN _ | exact H4.out.drew | exact (H4.out.drewN _).drew | exact (H4.out.drewN _).drew.drewN _ | exact H4.out.drew.drewN _ | exact (H4.out.drewN _).drewN _)); rintro e w' ⟨rfl, n8, rfl⟩))
          go_wp2_with (first | (go_at_call 75; (with_reducible refine (hCo _).mono ?_); rintro e w' ⟨rfl, rfl⟩) | (go_at_call 68; (with_reducible refine (fails_c _ (by first | exact H4.out | exact H4.out.drewN _)).mono ?_); rintro e w' ⟨rfl, hf_⟩))
          first | go_end0 | go_ret | ((try simp only [Exit.inBlock, Exit.then]); refine bodyPost_ret (results_none rfl _ _ _) rfl ?_)
          exact ⟨rfl, _, _, hf_⟩
      | false =>
        rw [if_neg (of_decide_eq_false hct)] at hP
        have hw4 : IntKind.i64.wrap (IntKind.i64.wrap (O + (C1.size : Int)) + 2) = O + (C1.size : Int) + 2 := by rw [IntKind.wrap_i64, IntKind.wrap_i64]; omega
        have k0 : decide (0 ≤ F) = true := decide_eq_true (by omega)
        have k1 : decide (F ≤ E) = true := decide_eq_true (by omega)
        have k2 : decide (E ≤ (d.size : Int)) = true := decide_eq_true (by omega)
        have k0' := eq_true (show 0 ≤ F by omega)
        have k1' := eq_true (show F ≤ E by omega)
        have k2' := eq_true (show E ≤ (d.size : Int) by omega)
        have hS : ∀ w', Rd w0 w' g d (O + (C1.size : Int) + 2) (ts ++ [⟨2, F, O + (C1.size : Int) + 2, partB d F E, decS C1⟩]) (false || decBad C1) → Step w0 w' g d ts P := by
          intro w' hr
          subst hP
          rw [Lib.size_eq] at hr
          cases hd : dec C1.data.toList with
          | none =>
            have : decBad C1 = true := by unfold decBad; rw [hd]; rfl
            rw [this] at hr
            exact ⟨_, _, hr⟩
          | some v =>
            have hb : decBad C1 = false := by unfold decBad; rw [hd]; rfl
            have hv : decS C1 = ⟨v.toArray⟩ := by unfold decS; rw [hd]; rfl
            rw [hb, hv] at hr
            exact hr
        have HS := Lib.hid hS
        clear hS hP
        rcases hqt with rfl | ⟨rfl, rfl⟩
        all_goals
          go_enter Try.func70, Try.ntmps70
          go_wp2
          go_region_held3 (fun W => W.cell? ⟨g, 0, none⟩ = some (.string d) ∧ W.cell? ⟨g, 1, none⟩ = some (.int .i64 a)) (first | exact ⟨by assumption, by assumption⟩ | go_keep) ((go_at_call 14; (with_reducible refine (hK0 _).mono ?_); rintro e w1 ⟨rfl, hb_⟩; have H1 := Lib.hid (show Rd w0 w1 g d a ts false from by first | exact H.out.below hb_ | exact (H.out.drewN _).below hb_ | exact (H.out.drew).below hb_); have hd0 := H1.out.c0; have hd1 := H1.out.c1; clear hb_))
          go_wp2_with (first | (go_at_call 13; (with_reducible refine (hN _).mono ?_); rintro e w2 ⟨rfl, hb_⟩; have H2 := Lib.hid (show Rd w0 w2 g d a ts false from by first | exact H1.out.below hb_ | exact (H1.out.drewN _).below hb_ | exact (H1.out.drew).below hb_); have he0 := H2.out.c0; have he1 := H2.out.c1; clear hb_) | (go_at_call 14; (with_reducible refine (hKE _).mono ?_); rintro e w3 ⟨rfl, hb_⟩; have H3 := Lib.hid (show Rd w0 w3 g d a ts false from by first | exact H2.out.below hb_ | exact (H2.out.drewN _).below hb_ | exact (H2.out.drew).below hb_); have hf0 := H3.out.c0; have hf1 := H3.out.c1; clear hb_) | (go_at_call 55; (with_reducible refine (stands_c _ (by first | exact H3.out | exact H3.out.drewN _) Q _ (by omega)).mono ?_); rintro e w' ⟨rfl, n_, rfl⟩) | (go_at_call 14; (with_reducible refine (hKO _).mono ?_); rintro e w4 ⟨rfl, hb_⟩; have H4 := Lib.hid (show Rd w0 w4 g d a ts false from by first | exact H3.out.below hb_ | exact (H3.out.drewN _).below hb_ | exact (H3.out.drew).below hb_); have hg0 := H4.out.c0; have hg1 := H4.out.c1; clear hb_) | (go_at_call 55; (with_reducible refine (stands_c _ (by first | exact H4.out | exact H4.out.drewN _) O _ (by omega)).mono ?_); rintro e w' ⟨rfl, n_, rfl⟩))
          go_region_held3 (fun W => W.cell? ⟨g, 0, none⟩ = some (.string d)) (first | assumption | exact Rd.c0 (w0 := w0) (g := g) (d := d) (a := a) (ts := ts) (x := false) (by first | exact H4.out | exact H4.out.drewN _ | exact H4.out.drew | exact (H4.out.drewN _).drew | exact (H4.out.drewN _).drew.drewN _ | exact H4.out.drew.drewN _ | exact (H4.out.drewN _).drewN _) | go_keep) ((go_at_call 26; refine (HCx.out _ ?_).mono ?_; exact (Rd.bel (g := g) (d := d) (a := a) (ts := ts) (x := false) (by first | exact H4.out | exact H4.out.drewN _ | exact H4.out.drew | exact (H4.out.drewN _).drew | exact (H4.out.drewN _).drew.drewN _ | exact H4.out.drew.drewN _ | exact (H4.out.drewN _).drewN _)); rintro e w' ⟨rfl, n8, rfl⟩))
          go_wp2_with (first | (go_at_call 75; (with_reducible refine (hCo _).mono ?_); rintro e w' ⟨rfl, rfl⟩))
          go_region_held3 (fun W => W.cell? ⟨g, 0, none⟩ = some (.string d)) (first | assumption | exact Rd.c0 (w0 := w0) (g := g) (d := d) (a := a) (ts := ts) (x := false) (by first | exact H4.out | exact H4.out.drewN _ | exact H4.out.drew | exact (H4.out.drewN _).drew | exact (H4.out.drewN _).drew.drewN _ | exact H4.out.drew.drewN _ | exact (H4.out.drewN _).drewN _) | go_keep) (first | (go_at_call 71; refine (decode_c (w0 := w0) (g := g) (d := d) (a := a) (ts := ts) (x := false) _ ?_ C1 (by omega)).mono ?_; (first | exact H4.out | exact H4.out.drewN _ | exact H4.out.drew | exact (H4.out.drewN _).drew | exact (H4.out.drewN _).drew.drewN _ | exact H4.out.drew.drewN _ | exact (H4.out.drewN _).drewN _); rintro e w' ⟨rfl, hr⟩; have hc8 := hr.c0) | (go_at_call 69; refine (tell_c (w0 := w0) (g := g) (d := d) (a := a) (ts := ts) (x := false || decBad C1) _ (by assumption) 2 F _ _ _ hl).mono ?_; rintro e w' ⟨rfl, ht⟩; have hc9 := ht.c0))
          all_goals
            go_wp2
            first | go_end0 | ((try simp only [Exit.inBlock, Exit.then]); refine bodyPost_ret (results_none rfl _ _ _) rfl ?_)
            exact ⟨rfl, HS.out _ ht⟩
end Go.Proofs.Ytjlgenefjebcaaa.X
end
section
set_option linter.unusedVariables false
set_option linter.unusedSimpArgs false
namespace Go.Proofs.Ytjlgenefjebcaaa.X
open Go.RowKit Go.Proofs.Ytjlgenefjebcaaa Go.Proofs.Ytjlgenefjebcaaa.Q Go.Proofs.Ytjlgenefjebcaaa.P11 Go.Proofs.YtjlgenefjebcaaaW.PrintWords Go.Proofs.YtjlgenefjebcaaaW.PrintLast Go.Proofs.YtjlgenefjebcaaaW.PrintMore
variable {w0 W : World} {g : Nat} {d : ByteArray} {a : Int} {ts : List Tok} {x : Bool}
def attrsF (d : ByteArray) : Nat → Int → List Tok → Option (List Tok × Int)
  | 0, _, _ => none
  | n + 1, a, acc =>
    if standsB d (skipP d.data.toList a) ⟨#[62]⟩ = true then some (acc ++ [⟨3, skipP d.data.toList a, skipP d.data.toList a + 1, ⟨#[]⟩, ⟨#[]⟩⟩], skipP d.data.toList a + 1)
    else if standsB d (skipP d.data.toList a) ⟨#[47, 62]⟩ = true then some (acc ++ [⟨4, skipP d.data.toList a, skipP d.data.toList a + 2, ⟨#[]⟩, ⟨#[]⟩⟩], skipP d.data.toList a + 2)
    else match attrP d a with
      | some (new, a') => attrsF d n a' (acc ++ new)
      | none => none
def tagP (d : ByteArray) (a : Int) : Option (List Tok × Int) :=
  let E := nameEndP d.data.toList (a + 1)
  if E = a + 1 then none else attrsF d (d.size + 1) E [⟨1, a, E, partB d (a + 1) E, ⟨#[]⟩⟩]
theorem stands_room2 (d : ByteArray) (i : Int) (s : ByteArray) (h0 : 0 ≤ i) (hs : 0 < s.size) (h : standsB d i s = true) : i + s.size ≤ (d.size : Int) := by
  unfold standsB Lib.hasPrefix at h
  obtain ⟨t, ht⟩ := List.isPrefixOf_iff_prefix.1 h
  have := congrArg List.length ht
  rw [List.length_append, List.length_drop] at this
  rw [Lib.size_eq d, Lib.size_eq s]
  rw [Lib.size_eq s] at hs
  omega
theorem attr_room (d : ByteArray) (a : Int) (h0 : 0 ≤ a) (h1 : a ≤ (d.size : Int)) (new : List Tok) (a' : Int) (h : attrP d a = some (new, a')) : a < a' ∧ a' ≤ (d.size : Int) ∧ new.length = 1 := by
  have hsz : d.data.toList.length = d.size := (Lib.size_eq d).symm
  unfold attrP at h
  obtain ⟨F, hF⟩ : ∃ F, skipP d.data.toList a = F := ⟨_, rfl⟩
  obtain ⟨E, hE⟩ : ∃ E, nameEndP d.data.toList F = E := ⟨_, rfl⟩
  obtain ⟨Q, hQ⟩ : ∃ Q, skipP d.data.toList E = Q := ⟨_, rfl⟩
  obtain ⟨O, hO⟩ : ∃ O, skipP d.data.toList (Q + 1) = O := ⟨_, rfl⟩
  simp only [hF, hE, hQ, hO] at h
  have hF1 := skipP_in d.data.toList a (by omega) (by omega)
  rw [hF] at hF1
  have hE1 := nameEndP_in d.data.toList F (by omega) (by omega)
  rw [hE] at hE1
  have hQ1 := skipP_in d.data.toList E (by omega) (by omega)
  rw [hQ] at hQ1
  by_cases c1 : F = a
  · rw [if_pos c1] at h; cases h
  rw [if_neg c1] at h
  by_cases c2 : E = F
  · rw [if_pos c2] at h; cases h
  rw [if_neg c2] at h
  by_cases c3 : standsB d Q ⟨#[61]⟩ = false
  · rw [if_pos c3] at h; cases h
  rw [if_neg c3] at h
  have hr1 := stands_room d Q 61 (by omega) (by simpa using c3)
  have hO1 := skipP_in d.data.toList (Q + 1) (by omega) (by omega)
  rw [hO] at hO1
  by_cases c4 : standsB d O ⟨#[34]⟩ = false ∧ standsB d O ⟨#[39]⟩ = false
  · rw [if_pos c4] at h; cases h
  rw [if_neg c4] at h
  have hr2 : O < (d.size : Int) := by
    by_cases c : standsB d O ⟨#[34]⟩ = true
    · exact stands_room d O 34 (by omega) c
    · by_cases c' : standsB d O ⟨#[39]⟩ = true
      · exact stands_room d O 39 (by omega) c'
      · exact absurd ⟨by simpa using c, by simpa using c'⟩ c4
  have hsep : (partB d O (O + 1)).data.toList.length = 1 := by
    unfold partB
    rw [Lib.extract_data, List.length_take, List.length_drop]; omega
  obtain ⟨s, hs⟩ : ∃ s, (partB d O (O + 1)).data.toList = s := ⟨_, rfl⟩
  rw [hs] at h hsep
  by_cases c5 : (Lib.cut (d.data.toList.drop (O + 1).toNat) s).2.2 = false
  · rw [if_pos c5] at h; cases h
  rw [if_neg c5] at h
  by_cases c6 : 0 ≤ Lib.indexByte (Lib.cut (d.data.toList.drop (O + 1).toNat) s).1 60
  · rw [if_pos c6] at h; cases h
  rw [if_neg c6] at h
  have hcl : ((Lib.cut (d.data.toList.drop (O + 1).toNat) s).1.length : Int) + 1 ≤ ((d.data.toList.drop (O + 1).toNat).length : Int) := by
    unfold Lib.cut at c5 ⊢
    by_cases ci : 0 ≤ Lib.index (d.data.toList.drop (O + 1).toNat) s
    · rw [if_pos ci]
      have := Lib.index_room _ _ ci
      rw [List.length_take]; omega
    · rw [if_neg ci] at c5; exact absurd rfl c5
  rw [List.length_drop] at hcl
  cases hd : dec (Lib.cut (d.data.toList.drop (O + 1).toNat) s).1 with
  | none => rw [hd] at h; cases h
  | some v =>
    rw [hd] at h
    injection h with h
    injection h with h2 h3
    subst h3 h2
    refine ⟨by omega, by omega, rfl⟩
def ahead (d : ByteArray) (g : Nat) (w : World) : Nat := match w.cell? ⟨g, 1, none⟩, w.cell? ⟨g, 3, none⟩ with
  | some (.int _ a), some (.bool x) => if x then 0 else ((d.size : Int) - a).toNat + 1
  | _, _ => 0
theorem Rd.ahead_ (h : Rd w0 W g d a ts x) : ahead d g W = if x then 0 else ((d.size : Int) - a).toNat + 1 := by
  unfold ahead
  rw [h.c1, h.c3]
def TagRel (d : ByteArray) (P : Option (List Tok × Int)) (a : Int) (acc : List Tok) : Prop :=
  0 ≤ a ∧ a ≤ (d.size : Int) ∧ (acc.length : Int) ≤ a ∧ ∃ n : Nat, (d.size : Int) - a < n ∧ P = attrsF d n a acc
set_option maxHeartbeats 16000000 in
set_option maxRecDepth 100000 in
theorem tag_c (w : World) (h : Rd w0 w g d a ts false) (hG : G w0) (hl : ts.length ≤ 100000) (hs : d.size ≤ 800000) (h0 : 0 ≤ a) (h4 : a + 1 ≤ (d.size : Int)) :
    Calls Try.prog 59 #[.pointer (some ⟨g, 0, none⟩)] w fun e w' => e = .returned (.tuple #[]) ∧ Step w0 w' g d ts (tagP d a) := by
  have H := Lib.hid h
  have hsz : d.data.toList.length = d.size := (Lib.size_eq d).symm
  obtain ⟨E, hE⟩ : ∃ E, nameEndP d.data.toList (a + 1) = E := ⟨_, rfl⟩
  have hE1 := nameEndP_in d.data.toList (a + 1) (by omega) (by omega)
  rw [hE] at hE1
  have hN : ∀ W, Calls Try.prog 13 #[.string d, .int .i64 (a + 1)] W fun e w' => e = .returned (.int .i64 E) ∧ Below W.heap.size W w' := fun W => chars_NameEnd.calls d (a + 1) E W (by unfold chars_NameEnd.f; rw [if_pos (by omega), hE])
  obtain ⟨P, hP⟩ : ∃ P, tagP d a = P := ⟨_, rfl⟩
  rw [hP]
  unfold tagP at hP
  simp only [hE] at hP
  have hc0 := h.c0
  have hc1 := h.c1
  have hx0 := h.drew.c0
  have hx1 := h.drew.c1
  have hw : IntKind.i64.wrap (a + 1) = a + 1 := by rw [IntKind.wrap_i64]; omega
  have hla : ts.length ≤ 1000000 := by omega
  clear h
  by_cases c1 : E = a + 1
  · rw [if_pos c1] at hP
    subst hP
    have b1 : (E == a + 1) = true := by rw [c1]; exact beq_self_eq_true _
    have b2 := eq_true c1
    clear c1
    go_enter Try.func59, Try.ntmps59
    go_step3
    go_wp2
    go_region_held3 (fun W => W.cell? ⟨g, 0, none⟩ = some (.string d) ∧ W.cell? ⟨g, 1, none⟩ = some (.int .i64 a)) (first | exact ⟨by assumption, by assumption⟩ | go_keep) ((go_at_call 13; (with_reducible refine (hN _).mono ?_); rintro e w1 ⟨rfl, hb_⟩; have H1 := Lib.hid (show Rd w0 w1 g d a ts false from by first | exact H.out.below hb_ | exact (H.out.drewN _).below hb_ | exact (H.out.drew).below hb_); have hd0 := H1.out.c0; have hd1 := H1.out.c1; have hd3 := H1.out.c3; clear hb_))
    go_wp2_with ((go_at_call 68; (with_reducible refine (fails_c _ (by first | exact H1.out | exact H1.out.drewN _)).mono ?_); rintro e w' ⟨rfl, hf_⟩))
    (try rw [Exit.noGoto_ret])
    first | go_end0 | go_ret | ((try simp only [Exit.inBlock, Exit.then]); refine bodyPost_ret (results_none rfl _ _ _) rfl ?_)
    exact ⟨rfl, _, _, hf_⟩
  rw [if_neg c1] at hP
  have b1 : (E == a + 1) = false := beq_eq_false_iff_ne.2 c1
  have b2 := eq_false c1
  clear c1
  have g0 : decide (0 ≤ a + 1) = true := decide_eq_true (by omega)
  have g1 : decide (a + 1 ≤ E) = true := decide_eq_true (by omega)
  have g2 : decide (E ≤ (d.size : Int)) = true := decide_eq_true (by omega)
  have g0' := eq_true (show 0 ≤ a + 1 by omega)
  have g1' := eq_true (show a + 1 ≤ E by omega)
  have g2' := eq_true (show E ≤ (d.size : Int) by omega)
  have hT : TagRel d P E [⟨1, a, E, partB d (a + 1) E, ⟨#[]⟩⟩] := ⟨by omega, by omega, by simp; omega, ⟨d.size + 1, by omega, hP.symm⟩⟩
  have HT := Lib.hid hT
  clear hT hP
  go_enter Try.func59, Try.ntmps59
  go_step3
  go_wp2
  go_region_held3 (fun W => W.cell? ⟨g, 0, none⟩ = some (.string d) ∧ W.cell? ⟨g, 1, none⟩ = some (.int .i64 a)) (first | exact ⟨by assumption, by assumption⟩ | go_keep) ((go_at_call 13; (with_reducible refine (hN _).mono ?_); rintro e w1 ⟨rfl, hb_⟩; have H1 := Lib.hid (show Rd w0 w1 g d a ts false from by first | exact H.out.below hb_ | exact (H.out.drewN _).below hb_ | exact (H.out.drew).below hb_); have hd0 := H1.out.c0; have hd1 := H1.out.c1; have hd3 := H1.out.c3; clear hb_))
  go_wp2
  have hy0 := H1.out.drew.c0
  have hy1 := H1.out.drew.c1
  go_region_with (go_at_call 69; refine (tell_c (w0 := w0) (g := g) (d := d) (a := a) (ts := ts) (x := false) _ (by first | exact H1.out.drewN _ | exact H1.out.drew | exact (H1.out.drewN _).drew | exact H1.out) 1 a _ _ _ hla).mono ?_; rintro e w' ⟨rfl, hr⟩; have hc9 := hr.c0)
  all_goals
    go_wp2
    (try go_step3)
    go_wp2
    have H2 := Lib.hid hr
    clear hr
    go_loopw [3] (fun t wr => (Hid (P = none) ∧ ∃ p ts', Hid (Rd w0 wr g d p ts' true)) ∨ (∃ p acc, Hid (TagRel d P p acc) ∧ Hid (Rd w0 wr g d p (ts ++ acc) false))) (fun t wr => ahead d g wr)
    case atStart => exact .inr ⟨_, _, HT, H2⟩
    case round =>
      clear H2 HT
      rcases hrel with ⟨hPn, p, ts', HR⟩ | ⟨p, acc, hRel, HR⟩
      · have hc3 := HR.out.c3
        go_wp2
        first | go_end0 | go_ret | (simp only [Exit.noGoto]; go_end0) | (simp only [Exit.noGoto]; refine bodyPost_ret (results_none rfl _ _ _) rfl ?_) | ((try rw [Exit.noGoto_ret]); (try simp only [Exit.inBlock, Exit.then]); refine bodyPost_ret (results_none rfl _ _ _) rfl ?_)
        exact ⟨rfl, by rw [hPn.out]; exact ⟨_, _, HR.out⟩⟩
      · have hmeas := Lib.hid HR.out.ahead_
        obtain ⟨r1, r2, r3, n, hn, hPn⟩ := hRel.out
        have hc3 := HR.out.c3
        have hz3 := HR.out.drew.c3
        have hz0 := HR.out.drew.c0
        have hz1 := HR.out.drew.c1
        have hv0 := HR.out.c0
        have hv1 := HR.out.c1
        obtain ⟨I, hI⟩ : ∃ I, skipP d.data.toList p = I := ⟨_, rfl⟩
        have hI1 := skipP_in d.data.toList p r1 (by omega)
        rw [hI] at hI1
        have hK : ∀ W, Calls Try.prog 14 #[.string d, .int .i64 p] W fun e w' => e = .returned (.int .i64 I) ∧ Below W.heap.size W w' := fun W => chars_Skip.calls d p I W (by unfold chars_Skip.f; rw [if_pos (by omega), hI])
        cases n with
        | zero => omega
        | succ n =>
        unfold attrsF at hPn
        rw [hI] at hPn
        have hw5 : IntKind.i64.wrap (I + 1) = I + 1 := by rw [IntKind.wrap_i64]; omega
        have hw6 : IntKind.i64.wrap (I + 2) = I + 2 := by rw [IntKind.wrap_i64]; omega
        obtain ⟨s1, hS1⟩ : ∃ s, standsB d I ⟨#[62]⟩ = s := ⟨_, rfl⟩
        obtain ⟨s2, hS2⟩ : ∃ s, standsB d I ⟨#[47, 62]⟩ = s := ⟨_, rfl⟩
        rw [hS1, hS2] at hPn
        cases s1 with
        | true =>
          rw [if_pos rfl] at hPn
          subst hPn
          go_wp2
          go_region_held3 (fun W => W.cell? ⟨g, 0, none⟩ = some (.string d) ∧ W.cell? ⟨g, 1, none⟩ = some (.int .i64 p)) (first | exact ⟨by assumption, by assumption⟩ | go_keep) ((go_at_call 14; (with_reducible refine (hK _).mono ?_); rintro e w1 ⟨rfl, hb_⟩; have H3 := Lib.hid (show Rd w0 w1 g d p (ts ++ acc) false from by first | exact HR.out.below hb_ | exact (HR.out.drewN _).below hb_ | exact (HR.out.drew).below hb_); have he0 := H3.out.c0; have he1 := H3.out.c1; have he3 := H3.out.c3; clear hb_))
          go_wp2_with (first | (go_at_call 55; (with_reducible refine (stands_c _ (by first | exact H3.out | exact H3.out.drewN _ | exact (H3.out.drewN _).drewN _) I _ (by omega)).mono ?_); rintro e w' ⟨rfl, n_, rfl⟩) | (go_at_call 69; (with_reducible refine (tell_c (w0 := w0) (g := g) (d := d) (a := p) (ts := ts ++ acc) (x := false) _ (by first | exact H3.out | exact H3.out.drewN _ | exact (H3.out.drewN _).drewN _) 3 I _ _ _ (by rw [List.length_append]; omega)).mono ?_); rintro e w' ⟨rfl, ht⟩))
          first | go_end0 | go_ret | (simp only [Exit.noGoto]; go_end0) | (simp only [Exit.noGoto]; refine bodyPost_ret (results_none rfl _ _ _) rfl ?_) | ((try rw [Exit.noGoto_ret]); (try simp only [Exit.inBlock, Exit.then]); refine bodyPost_ret (results_none rfl _ _ _) rfl ?_)
          exact ⟨rfl, by rw [List.append_assoc] at ht; exact ht⟩
        | false =>
          rw [if_neg (by decide)] at hPn
          cases s2 with
          | true =>
            rw [if_pos rfl] at hPn
            subst hPn
            go_wp2
            go_region_held3 (fun W => W.cell? ⟨g, 0, none⟩ = some (.string d) ∧ W.cell? ⟨g, 1, none⟩ = some (.int .i64 p)) (first | exact ⟨by assumption, by assumption⟩ | go_keep) ((go_at_call 14; (with_reducible refine (hK _).mono ?_); rintro e w1 ⟨rfl, hb_⟩; have H3 := Lib.hid (show Rd w0 w1 g d p (ts ++ acc) false from by first | exact HR.out.below hb_ | exact (HR.out.drewN _).below hb_ | exact (HR.out.drew).below hb_); have he0 := H3.out.c0; have he1 := H3.out.c1; have he3 := H3.out.c3; clear hb_))
            go_wp2_with (first | (go_at_call 55; (with_reducible refine (stands_c _ (by first | exact H3.out | exact H3.out.drewN _ | exact (H3.out.drewN _).drewN _) I _ (by omega)).mono ?_); rintro e w' ⟨rfl, n_, rfl⟩) | (go_at_call 69; (with_reducible refine (tell_c (w0 := w0) (g := g) (d := d) (a := p) (ts := ts ++ acc) (x := false) _ (by first | exact H3.out | exact H3.out.drewN _ | exact (H3.out.drewN _).drewN _) 4 I _ _ _ (by rw [List.length_append]; omega)).mono ?_); rintro e w' ⟨rfl, ht⟩))
            first | go_end0 | go_ret | (simp only [Exit.noGoto]; go_end0) | (simp only [Exit.noGoto]; refine bodyPost_ret (results_none rfl _ _ _) rfl ?_) | ((try rw [Exit.noGoto_ret]); (try simp only [Exit.inBlock, Exit.then]); refine bodyPost_ret (results_none rfl _ _ _) rfl ?_)
            exact ⟨rfl, by rw [List.append_assoc] at ht; exact ht⟩
          | false =>
            rw [if_neg (by decide)] at hPn
            cases hA : attrP d p with
            | none =>
              rw [hA] at hPn
              subst hPn
              go_wp2
              go_region_held3 (fun W => W.cell? ⟨g, 0, none⟩ = some (.string d) ∧ W.cell? ⟨g, 1, none⟩ = some (.int .i64 p)) (first | exact ⟨by assumption, by assumption⟩ | go_keep) ((go_at_call 14; (with_reducible refine (hK _).mono ?_); rintro e w1 ⟨rfl, hb_⟩; have H3 := Lib.hid (show Rd w0 w1 g d p (ts ++ acc) false from by first | exact HR.out.below hb_ | exact (HR.out.drewN _).below hb_ | exact (HR.out.drew).below hb_); have he0 := H3.out.c0; have he1 := H3.out.c1; have he3 := H3.out.c3; clear hb_))
              go_wp2_with (first | (go_at_call 55; (with_reducible refine (stands_c _ (by first | exact H3.out | exact H3.out.drewN _ | exact (H3.out.drewN _).drewN _) I _ (by omega)).mono ?_); rintro e w' ⟨rfl, n_, rfl⟩) | (go_at_call 70; (with_reducible refine (attr_c (w0 := w0) (g := g) (d := d) (a := p) (ts := ts ++ acc) _ (by first | exact H3.out | exact H3.out.drewN _ | exact (H3.out.drewN _).drewN _) hG (by rw [List.length_append]; omega) (by omega) (by omega) (by omega)).mono ?_); rintro e w4 ⟨rfl, ht⟩))
              rw [hA] at ht
              obtain ⟨a', ts', ht⟩ := ht
              have HA := Lib.hid ht
              clear ht
              go_wp2
              go_roundw
              case rel => exact .inl ⟨Lib.hid (by first | trivial | rfl), _, _, HA⟩
              case measure => rw [hmeas.out, HA.out.ahead_]; simp only [Bool.false_eq_true, if_false, if_true]; omega
            | some v =>
              obtain ⟨new, a'⟩ := v
              rw [hA] at hPn
              have hroom := attr_room d p r1 r2 new a' hA
              go_wp2
              go_region_held3 (fun W => W.cell? ⟨g, 0, none⟩ = some (.string d) ∧ W.cell? ⟨g, 1, none⟩ = some (.int .i64 p)) (first | exact ⟨by assumption, by assumption⟩ | go_keep) ((go_at_call 14; (with_reducible refine (hK _).mono ?_); rintro e w1 ⟨rfl, hb_⟩; have H3 := Lib.hid (show Rd w0 w1 g d p (ts ++ acc) false from by first | exact HR.out.below hb_ | exact (HR.out.drewN _).below hb_ | exact (HR.out.drew).below hb_); have he0 := H3.out.c0; have he1 := H3.out.c1; have he3 := H3.out.c3; clear hb_))
              go_wp2_with (first | (go_at_call 55; (with_reducible refine (stands_c _ (by first | exact H3.out | exact H3.out.drewN _ | exact (H3.out.drewN _).drewN _) I _ (by omega)).mono ?_); rintro e w' ⟨rfl, n_, rfl⟩) | (go_at_call 70; (with_reducible refine (attr_c (w0 := w0) (g := g) (d := d) (a := p) (ts := ts ++ acc) _ (by first | exact H3.out | exact H3.out.drewN _ | exact (H3.out.drewN _).drewN _) hG (by rw [List.length_append]; omega) (by omega) (by omega) (by omega)).mono ?_); rintro e w4 ⟨rfl, ht⟩))
              rw [hA] at ht
              have HA := Lib.hid (show Rd w0 w4 g d a' (ts ++ (acc ++ new)) false by rw [← List.append_assoc]; exact ht)
              clear ht
              go_wp2
              go_roundw
              case rel => exact .inr ⟨_, _, Lib.hid ⟨by omega, hroom.2.1, by rw [List.length_append]; omega, ⟨n, by omega, hPn⟩⟩, HA⟩
              case measure => rw [hmeas.out, HA.out.ahead_]; simp only [Bool.false_eq_true, if_false, if_true]; omega
end Go.Proofs.Ytjlgenefjebcaaa.X
end
section
set_option linter.unusedVariables false
set_option linter.unusedSimpArgs false
namespace Go.Proofs.Ytjlgenefjebcaaa.X
open Go.RowKit Go.Proofs.Ytjlgenefjebcaaa Go.Proofs.Ytjlgenefjebcaaa.Q Go.Proofs.Ytjlgenefjebcaaa.P11 Go.Proofs.YtjlgenefjebcaaaW.PrintWords Go.Proofs.YtjlgenefjebcaaaW.PrintLast Go.Proofs.YtjlgenefjebcaaaW.PrintMore
def stepP (d : ByteArray) (a : Int) : Option (List Tok × Int) :=
  if standsB d a ⟨#[60, 33, 45, 45]⟩ = true then commentP d.data.toList a
  else if standsB d a ⟨#[60, 33, 91, 67, 68, 65, 84, 65, 91]⟩ = true then plainP d.data.toList a
  else if standsB d a ⟨#[60, 47]⟩ = true then closingP d a
  else if standsB d a ⟨#[60]⟩ = true then tagP d a
  else textP d.data.toList a
def lexF (d : ByteArray) : Nat → Int → List Tok → Option (List Tok)
  | 0, _, _ => none
  | n + 1, a, acc => if a < (d.size : Int) then (match stepP d a with
      | some (new, a') => lexF d n a' (acc ++ new)
      | none => none) else some acc
def lexO (d : ByteArray) : Option (List Tok) := lexF d (d.size + 1) 0 []
def lexV (d : ByteArray) : List Tok × Int :=
  if (65536 : Int) < (d.size : Int) then ([], 18)
  else if validL d.data.toList = false then ([], 15)
  else match lexO d with
    | some l => (l, 0)
    | none => ([], 15)
theorem attrsF_room (d : ByteArray) (b : Int) : ∀ (n : Nat) (a : Int) (acc r : List Tok) (a' : Int), 0 ≤ b → b < a → a ≤ (d.size : Int) → (acc.length : Int) ≤ a - b → attrsF d n a acc = some (r, a') → b < a' ∧ a' ≤ (d.size : Int) ∧ (r.length : Int) ≤ a' - b := by
  intro n
  induction n with
  | zero => intro a acc r a' _ _ _ _ h; cases h
  | succ n ih =>
    intro a acc r a' hb h0 h1 hl h
    have hsz : d.data.toList.length = d.size := (Lib.size_eq d).symm
    unfold attrsF at h
    obtain ⟨I, hI⟩ : ∃ I, skipP d.data.toList a = I := ⟨_, rfl⟩
    have hI1 := skipP_in d.data.toList a (by omega) (by omega)
    rw [hI] at hI1
    rw [hI] at h
    by_cases c1 : standsB d I ⟨#[62]⟩ = true
    · rw [if_pos c1] at h
      have := stands_room2 d I ⟨#[62]⟩ (by omega) (by decide) c1
      rw [show ((⟨#[62]⟩ : ByteArray).size : Int) = 1 from rfl] at this
      injection h with h; injection h with h2 h3
      subst h3 h2
      rw [List.length_append, List.length_singleton]
      omega
    rw [if_neg c1] at h
    by_cases c2 : standsB d I ⟨#[47, 62]⟩ = true
    · rw [if_pos c2] at h
      have := stands_room2 d I ⟨#[47, 62]⟩ (by omega) (by decide) c2
      rw [show ((⟨#[47, 62]⟩ : ByteArray).size : Int) = 2 from rfl] at this
      injection h with h; injection h with h2 h3
      subst h3 h2
      rw [List.length_append, List.length_singleton]
      omega
    rw [if_neg c2] at h
    cases hA : attrP d a with
    | none => rw [hA] at h; cases h
    | some v =>
      obtain ⟨new, p⟩ := v
      rw [hA] at h
      have hr := attr_room d a (by omega) h1 new p hA
      exact ih p (acc ++ new) r a' hb (by omega) hr.2.1 (by rw [List.length_append]; omega) h
theorem hasPrefix_room (l s : List UInt8) (h : Lib.hasPrefix l s = true) : s.length ≤ l.length := by
  unfold Lib.hasPrefix at h
  obtain ⟨t, ht⟩ := List.isPrefixOf_iff_prefix.1 h
  have := congrArg List.length ht
  rw [List.length_append] at this; omega
theorem step_room (d : ByteArray) (a : Int) (h0 : 0 ≤ a) (h1 : a < (d.size : Int)) (new : List Tok) (a' : Int) (h : stepP d a = some (new, a')) : a < a' ∧ a' ≤ (d.size : Int) ∧ (new.length : Int) ≤ a' - a := by
  have hsz : d.data.toList.length = d.size := (Lib.size_eq d).symm
  unfold stepP at h
  by_cases c1 : standsB d a ⟨#[60, 33, 45, 45]⟩ = true
  · rw [if_pos c1] at h
    unfold commentP at h
    obtain ⟨i, hi⟩ : ∃ i, Lib.index (d.data.toList.drop (a.toNat + 4)) [45, 45] = i := ⟨_, rfl⟩
    simp only [hi] at h
    by_cases c : i < 0
    · rw [if_pos c] at h; cases h
    rw [if_neg c] at h
    by_cases c' : Lib.hasPrefix ((d.data.toList.drop (a.toNat + 4)).drop i.toNat) [45, 45, 62] = true
    · rw [if_pos c'] at h
      have := hasPrefix_room _ _ c'
      rw [List.length_drop, List.length_drop] at this
      simp only [List.length_cons, List.length_nil] at this
      injection h with h; injection h with h2 h3
      subst h3 h2
      refine ⟨by omega, by omega, by simp; omega⟩
    · rw [if_neg c'] at h; cases h
  rw [if_neg c1] at h
  by_cases c2 : standsB d a ⟨#[60, 33, 91, 67, 68, 65, 84, 65, 91]⟩ = true
  · rw [if_pos c2] at h
    unfold plainP at h
    by_cases c : (Lib.cut (d.data.toList.drop (a.toNat + 9)) [93, 93, 62]).2.2 = true
    · simp only [c, if_true] at h
      have hcl : ((Lib.cut (d.data.toList.drop (a.toNat + 9)) [93, 93, 62]).1.length : Int) + 3 ≤ ((d.data.toList.drop (a.toNat + 9)).length : Int) := by
        unfold Lib.cut at c ⊢
        by_cases ci : 0 ≤ Lib.index (d.data.toList.drop (a.toNat + 9)) [93, 93, 62]
        · rw [if_pos ci]
          have := Lib.index_room _ _ ci
          simp only [List.length_cons, List.length_nil] at this
          rw [List.length_take]; omega
        · rw [if_neg ci] at c; cases c
      rw [List.length_drop] at hcl
      injection h with h; injection h with h2 h3
      subst h3 h2
      refine ⟨by omega, by omega, by simp; omega⟩
    · simp only [c] at h; cases h
  rw [if_neg c2] at h
  by_cases c3 : standsB d a ⟨#[60, 47]⟩ = true
  · rw [if_pos c3] at h
    have hr := stands_room2 d a ⟨#[60, 47]⟩ h0 (by decide) c3
    rw [show ((⟨#[60, 47]⟩ : ByteArray).size : Int) = 2 from rfl] at hr
    unfold closingP at h
    obtain ⟨E, hE⟩ : ∃ E, nameEndP d.data.toList (a + 2) = E := ⟨_, rfl⟩
    obtain ⟨T, hT⟩ : ∃ T, skipP d.data.toList E = T := ⟨_, rfl⟩
    have hE1 := nameEndP_in d.data.toList (a + 2) (by omega) (by omega)
    rw [hE] at hE1
    have hT1 := skipP_in d.data.toList E (by omega) (by omega)
    rw [hT] at hT1
    simp only [hE, hT] at h
    by_cases c : E = a + 2
    · rw [if_pos c] at h; cases h
    rw [if_neg c] at h
    by_cases c' : standsB d T ⟨#[62]⟩ = true
    · rw [if_pos c'] at h
      have := stands_room d T 62 (by omega) c'
      injection h with h; injection h with h2 h3
      subst h3 h2
      refine ⟨by omega, by omega, by simp; omega⟩
    · rw [if_neg c'] at h; cases h
  rw [if_neg c3] at h
  by_cases c4 : standsB d a ⟨#[60]⟩ = true
  · rw [if_pos c4] at h
    unfold tagP at h
    obtain ⟨E, hE⟩ : ∃ E, nameEndP d.data.toList (a + 1) = E := ⟨_, rfl⟩
    have hE1 := nameEndP_in d.data.toList (a + 1) (by omega) (by omega)
    rw [hE] at hE1
    simp only [hE] at h
    by_cases c : E = a + 1
    · rw [if_pos c] at h; cases h
    rw [if_neg c] at h
    exact attrsF_room d a _ _ _ _ _ h0 (by omega) (by omega) (by simp; omega) h
  rw [if_neg c4] at h
  unfold textP at h
  obtain ⟨b, hb⟩ : ∃ b, (Lib.cut (d.data.toList.drop a.toNat) [60]).1 = b := ⟨_, rfl⟩
  simp only [hb] at h
  have hble : b.length ≤ (d.data.toList.drop a.toNat).length := by rw [← hb]; exact cut_le _ _
  rw [List.length_drop] at hble
  have hb1 : 1 ≤ b.length := by
    have hlt : a.toNat < d.data.toList.length := by omega
    have hcons := List.drop_eq_getElem_cons hlt
    have hne : ¬ d.data.toList[a.toNat] = 60 := by
      intro e
      apply c4
      unfold standsB Lib.hasPrefix
      rw [hcons, e]
      simp [List.isPrefixOf]
    rw [← hb]
    unfold Lib.cut
    rw [Lib.index_one]
    by_cases ci : 0 ≤ Lib.indexByte (d.data.toList.drop a.toNat) 60
    · rw [if_pos ci]
      obtain ⟨t, ht⟩ := ((indexByte_split (d.data.toList.drop a.toNat) 60).2 ci).2
      by_cases c0 : (Lib.indexByte (d.data.toList.drop a.toNat) 60).toNat = 0
      · rw [c0, List.drop_zero, hcons] at ht
        injection ht with ht _
        exact absurd ht hne
      · have := congrArg List.length ht
        rw [List.length_drop, List.length_cons, List.length_drop] at this
        show 1 ≤ ((d.data.toList.drop a.toNat).take _).length
        rw [List.length_take, List.length_drop]; omega
    · rw [if_neg ci]
      show 1 ≤ (d.data.toList.drop a.toNat).length
      rw [List.length_drop]; omega
  cases hd : dec b with
  | none => rw [hd] at h; cases h
  | some v =>
    rw [hd] at h
    injection h with h; injection h with h2 h3
    subst h3 h2
    refine ⟨by omega, by omega, by simp; omega⟩
end Go.Proofs.Ytjlgenefjebcaaa.X
end
section
set_option linter.unusedVariables false
set_option linter.unusedSimpArgs false
namespace Go.Proofs.Ytjlgenefjebcaaa.P12
open Go Go.RowKit Go.Proofs.Ytjlgenefjebcaaa Go.Proofs.Ytjlgenefjebcaaa.Q Go.Proofs.YtjlgenefjebcaaaW.PrintWords Go.Proofs.Ytjlgenefjebcaaa.X Go.Proofs.Ytjlgenefjebcaaa.P11
def signB (b : UInt8) : Bool := b == 38 || b == 60 || b == 62 || b == 34
theorem esc_sign (b : UInt8) (h : signB b = true) : b = 38 ∨ b = 60 ∨ b = 62 ∨ b = 34 := by
  unfold signB at h
  simp only [Bool.or_eq_true, beq_iff_eq] at h
  rcases h with ((h | h) | h) | h
  · exact Or.inl h
  · exact Or.inr (Or.inl h)
  · exact Or.inr (Or.inr (Or.inl h))
  · exact Or.inr (Or.inr (Or.inr h))
theorem esc_same (b : UInt8) (h : signB b = false) : escB b = [b] ∧ ¬ b = 38 ∧ ¬ b = 60 := by
  unfold signB at h
  simp only [Bool.or_eq_false_iff, beq_eq_false_iff_ne, ne_eq] at h
  unfold escB
  rw [if_neg h.1.1.1, if_neg h.1.1.2, if_neg h.1.2, if_neg h.2]
  exact ⟨rfl, h.1.1.1, h.1.1.2⟩
theorem escL_cons (b : UInt8) (t : List UInt8) : escL (b :: t) = escB b ++ escL t := by simp [escL]
theorem escL_nil : escL [] = [] := rfl
theorem dec_esc : ∀ l : List UInt8, dec (escL l) = some l
  | [] => rfl
  | b :: t => by
    rw [escL_cons]
    cases h : signB b with
    | true =>
      have hent : ∀ r, entL (escB b ++ r) = ([b], ((escB b).length : Int)) := by
        intro r
        rcases esc_sign b h with rfl | rfl | rfl | rfl <;> rfl
      have hcons : ∃ r, escB b = 38 :: r := by
        rcases esc_sign b h with rfl | rfl | rfl | rfl
        · exact ⟨_, rfl⟩
        · exact ⟨_, rfl⟩
        · exact ⟨_, rfl⟩
        · exact ⟨_, rfl⟩
      obtain ⟨r, hr⟩ := hcons
      have he := hent (escL t)
      rw [hr] at he ⊢
      rw [List.cons_append] at he ⊢
      rw [dec_amp, he, if_neg (by rw [List.length_cons]; omega)]
      show (dec (List.drop ((38 :: r).length : Int).toNat (38 :: (r ++ escL t)))).map _ = _
      rw [Int.toNat_natCast, ← List.cons_append, List.drop_left, dec_esc t]
      rfl
    | false =>
      obtain ⟨h1, h2, h3⟩ := esc_same b h
      rw [h1, List.singleton_append, dec_cons _ _ h2, dec_esc t]
      rfl
theorem esc_no_less : ∀ (l : List UInt8) (c : UInt8), c ∈ escL l → ¬ c = 60
  | [], c, h => by cases h
  | b :: t, c, h => by
    rw [escL_cons] at h
    rcases List.mem_append.1 h with h | h
    · cases hs : signB b with
      | true =>
        rcases esc_sign b hs with rfl | rfl | rfl | rfl
        · intro e; subst e; exact absurd h (by decide)
        · intro e; subst e; exact absurd h (by decide)
        · intro e; subst e; exact absurd h (by decide)
        · intro e; subst e; exact absurd h (by decide)
      | false =>
        obtain ⟨h1, h2, h3⟩ := esc_same b hs
        rw [h1] at h
        rw [List.mem_singleton.1 h]; exact h3
    · exact esc_no_less t c h
theorem enc_high (c : Int) (hp : pointB c = true) (h : 128 ≤ c) : ∀ x, x ∈ encL c → 128 ≤ x.toNat := by
  have hr := point_range hp
  unfold encL
  rw [if_pos hp, if_neg (by omega)]
  have b := byteI_nat
  intro x hx
  split at hx
  · simp only [List.mem_cons, List.not_mem_nil, or_false] at hx
    rcases hx with rfl | rfl
    · have := byteI_nat (192 + c / 64) (by omega) (by omega); omega
    · have := byteI_nat (128 + c % 64) (by omega) (by omega); omega
  split at hx
  · simp only [List.mem_cons, List.not_mem_nil, or_false] at hx
    rcases hx with rfl | rfl | rfl
    · have := byteI_nat (224 + c / 4096) (by omega) (by omega); omega
    · have := byteI_nat (128 + c / 64 % 64) (by omega) (by omega); omega
    · have := byteI_nat (128 + c % 64) (by omega) (by omega); omega
  · simp only [List.mem_cons, List.not_mem_nil, or_false] at hx
    rcases hx with rfl | rfl | rfl | rfl
    · have := byteI_nat (240 + c / 262144) (by omega) (by omega); omega
    · have := byteI_nat (128 + c / 4096 % 64) (by omega) (by omega); omega
    · have := byteI_nat (128 + c / 64 % 64) (by omega) (by omega); omega
    · have := byteI_nat (128 + c % 64) (by omega) (by omega); omega
theorem enc_low (b : UInt8) (h : b.toNat < 128) : pointB (b.toNat : Int) = true ∧ encL (b.toNat : Int) = [b] := by
  have hp : pointB (b.toNat : Int) = true := by unfold pointB; simp; omega
  refine ⟨hp, ?_⟩
  unfold encL
  rw [if_pos hp, if_pos (by omega), byteI_eq _ b rfl]
theorem esc_high : ∀ (u t v : List UInt8), (∀ x, x ∈ u → 128 ≤ x.toNat) → escL t = u ++ v → ∃ v', t = u ++ v'
  | [], t, v, _, _ => ⟨t, rfl⟩
  | x :: u, t, v, hu, h => by
    have hx := hu x (List.mem_cons_self ..)
    cases t with
    | nil => rw [escL_nil] at h; cases h
    | cons b t =>
      rw [escL_cons] at h
      cases hs : signB b with
      | true =>
        exfalso
        have hc : ∃ r, escB b = 38 :: r := by
          rcases esc_sign b hs with rfl | rfl | rfl | rfl
          · exact ⟨_, rfl⟩
          · exact ⟨_, rfl⟩
          · exact ⟨_, rfl⟩
          · exact ⟨_, rfl⟩
        obtain ⟨r, hr⟩ := hc
        rw [hr, List.cons_append, List.cons_append] at h
        injection h with h1 _
        rw [← h1] at hx
        exact absurd hx (by decide)
      | false =>
        rw [(esc_same b hs).1, List.singleton_append, List.cons_append] at h
        injection h with h1 h2
        subst h1
        obtain ⟨v', hv⟩ := esc_high u t v (fun y hy => hu y (List.mem_cons_of_mem _ hy)) h2
        exact ⟨v', by rw [hv]; rfl⟩
theorem escL_high : ∀ (u t : List UInt8), (∀ x, x ∈ u → 128 ≤ x.toNat) → escL (u ++ t) = u ++ escL t
  | [], t, _ => rfl
  | x :: u, t, hu => by
    have hx := hu x (List.mem_cons_self ..)
    have hs : signB x = false := by
      cases h : signB x with
      | false => rfl
      | true => rcases esc_sign x h with rfl | rfl | rfl | rfl <;> exact absurd hx (by decide)
    rw [List.cons_append, escL_cons, (esc_same x hs).1, escL_high u t (fun y hy => hu y (List.mem_cons_of_mem _ hy))]
    rfl
theorem valid_bad (a : UInt8) (t : List UInt8) (h : (decL (a :: t)).2 = 0) : validL (a :: t) = false := by
  rw [valid_cons, h]; rfl
theorem valid_esc (n : Nat) : ∀ l : List UInt8, l.length ≤ n → validL (escL l) = validL l := by
  induction n with
  | zero =>
    intro l h
    have : l = [] := List.eq_nil_of_length_eq_zero (by omega)
    rw [this]; rfl
  | succ n ih =>
    intro l hl
    cases l with
    | nil => rfl
    | cons a t =>
      rw [List.length_cons] at hl
      by_cases hlow : a.toNat < 128
      · obtain ⟨hp, he⟩ := enc_low a hlow
        have h1 : validL (a :: t) = (allowedB (a.toNat : Int) && validL t) := by
          have := valid_enc _ hp t
          rw [he] at this
          exact this
        rw [h1, escL_cons]
        cases hs : signB a with
        | true =>
          have hv : validL (escB a) = true := by
            rcases esc_sign a hs with rfl | rfl | rfl | rfl <;> decide
          have ha : allowedB (a.toNat : Int) = true := by
            rcases esc_sign a hs with rfl | rfl | rfl | rfl <;> decide
          rw [valid_append _ _ hv, ha, ih t (by omega)]; rfl
        | false =>
          rw [(esc_same a hs).1]
          have := valid_enc _ hp (escL t)
          rw [he] at this
          rw [this, ih t (by omega)]
      · have hs : signB a = false := by
          cases h : signB a with
          | false => rfl
          | true => rcases esc_sign a h with rfl | rfl | rfl | rfl <;> exact absurd (by decide) hlow
        have hE : escL (a :: t) = a :: escL t := by rw [escL_cons, (esc_same a hs).1]; rfl
        by_cases h0 : (decL (a :: t)).2 = 0
        · rw [valid_bad a t h0, hE]
          apply valid_bad
          apply Classical.byContradiction
          intro h1
          obtain ⟨hp, hsz, u, hu⟩ := enc_dec (a :: escL t) h1
          obtain ⟨c, hc⟩ : ∃ c, (decL (a :: escL t)).1 = c := ⟨_, rfl⟩
          rw [hc] at hp hsz hu
          have hge : 128 ≤ c := by
            apply Classical.byContradiction
            intro hlt
            have hr := point_range hp
            have : encL c = [byteI c] := by unfold encL; rw [if_pos hp, if_pos (by omega)]
            rw [this] at hu
            injection hu with hu _
            have := byteI_nat c (by omega) (by omega)
            rw [← hu] at this; omega
          have hh := enc_high c hp hge
          obtain ⟨v', hv⟩ := esc_high (encL c) (a :: t) u hh (by rw [hE]; exact hu)
          rw [hv, dec_enc c hp v'] at h0
          have := sizeN_range c
          simp only at h0
          omega
        · obtain ⟨hp, hsz, u, hu⟩ := enc_dec (a :: t) h0
          obtain ⟨c, hc⟩ : ∃ c, (decL (a :: t)).1 = c := ⟨_, rfl⟩
          rw [hc] at hp hsz hu
          have hlen := enc_len c hp
          have hr := sizeN_range c
          have hge : 128 ≤ c := by
            apply Classical.byContradiction
            intro hlt
            have hr := point_range hp
            have : encL c = [byteI c] := by unfold encL; rw [if_pos hp, if_pos (by omega)]
            rw [this] at hu
            injection hu with hu _
            have := byteI_nat c (by omega) (by omega)
            rw [← hu] at this; omega
          have hh := enc_high c hp hge
          have hul := congrArg List.length hu
          rw [List.length_append, List.length_cons] at hul
          rw [hu, escL_high _ _ hh, valid_enc _ hp, valid_enc _ hp, ih u (by omega)]
theorem index_out (l : List UInt8) (h : ∀ c, c ∈ l → ¬ c = 60) : Lib.index l [60] = -1 := by
  apply Lib.index_none
  intro j _
  unfold Lib.occAt
  cases hd : l.drop j with
  | nil => rfl
  | cons c t =>
    have hm : c ∈ l := List.mem_of_mem_drop (by rw [hd]; exact List.mem_cons_self ..)
    have := h c hm
    simp only [List.isPrefixOf, Bool.and_eq_false_iff, beq_eq_false_iff_ne, ne_eq]
    exact Or.inl (fun e => this e.symm)
end Go.Proofs.Ytjlgenefjebcaaa.P12
end
section
set_option linter.unusedVariables false
set_option linter.unusedSimpArgs false
namespace Go.Proofs.Ytjlgenefjebcaaa.P12
open Go Go.RowKit Go.Proofs.Ytjlgenefjebcaaa Go.Proofs.Ytjlgenefjebcaaa.Q Go.Proofs.YtjlgenefjebcaaaW.PrintWords Go.Proofs.Ytjlgenefjebcaaa.X Go.Proofs.Ytjlgenefjebcaaa.P11
def opens (k : Int) : Bool := k == 1 || k == 2
def inTag (k : Int) : Bool := k == 2 || k == 3 || k == 4
def Seg (l : List UInt8) : Int → Bool → List Tok → Int → Bool → Prop
  | a, x, [], b, y => a = b ∧ x = y
  | a, x, t :: r, b, y => a ≤ t.f1 ∧ t.f1 < t.f2 ∧ t.f2 ≤ l.length ∧ (∀ n : Nat, a ≤ n → (n : Int) < t.f1 → spaceB (l.getD n 0) = true ∧ x = true) ∧ x = inTag t.f0 ∧ Seg l t.f2 (opens t.f0) r b y
theorem Seg.append {l : List UInt8} : ∀ {r1 r2 : List Tok} {a b c : Int} {x y z : Bool}, Seg l a x r1 b y → Seg l b y r2 c z → Seg l a x (r1 ++ r2) c z
  | [], r2, a, b, c, x, y, z, h1, h2 => by
    obtain ⟨rfl, rfl⟩ := h1
    exact h2
  | t :: r1, r2, a, b, c, x, y, z, h1, h2 => by
    obtain ⟨e1, e2, e3, e4, e5, e6⟩ := h1
    exact ⟨e1, e2, e3, e4, e5, Seg.append e6 h2⟩
theorem Seg.one {l : List UInt8} {t : Tok} {a b : Int} {x : Bool} (h1 : t.f1 = a) (h2 : t.f2 = b) (h3 : a < b) (h4 : b ≤ l.length) (h5 : x = inTag t.f0) : Seg l a x [t] b (opens t.f0) := by
  refine ⟨by omega, by omega, by omega, fun n c1 c2 => by omega, h5, h2, rfl⟩
theorem skip_spaces (l : List UInt8) (a : Int) (h0 : 0 ≤ a) (n : Nat) (h1 : a ≤ n) (h2 : (n : Int) < skipP l a) : spaceB (l.getD n 0) = true := by
  unfold skipP at h2
  split at h2
  · rename_i hc
    have hk : n - a.toNat < ((l.drop a.toNat).takeWhile spaceB).length := by omega
    have hm : ((l.drop a.toNat).takeWhile spaceB)[n - a.toNat] ∈ (l.drop a.toNat).takeWhile spaceB := List.getElem_mem hk
    have hs := List.all_eq_true.1 (List.all_takeWhile (p := spaceB) (l := l.drop a.toNat)) _ hm
    have hle := takeWhile_le spaceB (l.drop a.toNat)
    rw [List.length_drop] at hle
    have hpre : (l.drop a.toNat).takeWhile spaceB <+: l.drop a.toNat := List.takeWhile_prefix spaceB
    have he := hpre.getElem hk
    rw [he, List.getElem_drop] at hs
    rw [List.getD_eq_getElem?_getD, List.getElem?_eq_getElem (by omega)]
    simp only [Option.getD_some]
    have hidx : a.toNat + (n - a.toNat) = n := by omega
    simp only [hidx] at hs
    exact hs
  · omega
theorem Seg.tag {l : List UInt8} {t : Tok} {a b : Int} (h0 : 0 ≤ a) (ha : a ≤ l.length) (h1 : t.f1 = skipP l a) (h2 : t.f2 = b) (h3 : skipP l a < b) (h4 : b ≤ l.length) (h5 : inTag t.f0 = true) : Seg l a true [t] b (opens t.f0) := by
  have := skipP_in l a h0 ha
  refine ⟨by omega, by omega, by omega, fun n c1 c2 => ⟨skip_spaces l a h0 n c1 (by omega), rfl⟩, h5.symm, h2, rfl⟩
end Go.Proofs.Ytjlgenefjebcaaa.P12
end
section
set_option linter.unusedVariables false
set_option linter.unusedSimpArgs false
namespace Go.Proofs.Ytjlgenefjebcaaa.P12
open Go Go.RowKit Go.Proofs.Ytjlgenefjebcaaa Go.Proofs.Ytjlgenefjebcaaa.Q Go.Proofs.YtjlgenefjebcaaaW.PrintWords Go.Proofs.Ytjlgenefjebcaaa.X Go.Proofs.Ytjlgenefjebcaaa.P11
theorem nameLen_cons (c : UInt8) (t : List UInt8) : nameLen (c :: t) = if nameB c = true then 1 + (t.takeWhile fun d => nameB d || moreB d).length else 0 := rfl
theorem stands_in (d : ByteArray) (i : Int) (c : UInt8) (t s : List UInt8) (h : d.data.toList.drop i.toNat = c :: t) : standsB d i ⟨s.toArray⟩ = s.isPrefixOf (c :: t) := by
  unfold standsB Lib.hasPrefix
  rw [h]
end Go.Proofs.Ytjlgenefjebcaaa.P12
end
section
set_option linter.unusedVariables false
set_option linter.unusedSimpArgs false
namespace Go.Proofs.Ytjlgenefjebcaaa.P12
open Go Go.RowKit Go.Proofs.Ytjlgenefjebcaaa Go.Proofs.Ytjlgenefjebcaaa.Q Go.Proofs.YtjlgenefjebcaaaW.PrintWords Go.Proofs.Ytjlgenefjebcaaa.X Go.Proofs.Ytjlgenefjebcaaa.P11
def NmL (l : List UInt8) : Prop := 0 < l.length ∧ nameLen l = l.length
def Not1 (p : UInt8 → Bool) (t : List UInt8) : Prop := ∀ c r, t = c :: r → p c = false
theorem takeWhile_stop (p : UInt8 → Bool) : ∀ (s t : List UInt8), (∀ c, c ∈ s → p c = true) → Not1 p t → (s ++ t).takeWhile p = s
  | [], t, _, h => by
    cases t with
    | nil => rfl
    | cons c r => rw [List.nil_append, List.takeWhile_cons_of_neg (by rw [h c r rfl]; decide)]
  | c :: s, t, hs, h => by
    rw [List.cons_append, List.takeWhile_cons_of_pos (hs c (List.mem_cons_self ..)), takeWhile_stop p s t (fun d hd => hs d (List.mem_cons_of_mem _ hd)) h]
theorem all_of_takeWhile (p : UInt8 → Bool) : ∀ l : List UInt8, (l.takeWhile p).length = l.length → ∀ c, c ∈ l → p c = true
  | [], _, c, hc => by cases hc
  | a :: t, h, c, hc => by
    by_cases ha : p a = true
    · rw [List.takeWhile_cons_of_pos ha, List.length_cons, List.length_cons] at h
      rcases List.mem_cons.1 hc with rfl | hc
      · exact ha
      · exact all_of_takeWhile p t (by omega) c hc
    · rw [List.takeWhile_cons_of_neg ha] at h
      exact absurd h (by simp)
theorem skip_at (l : List UInt8) (i : Int) (h0 : 0 ≤ i) (s t : List UInt8) (h : l.drop i.toNat = s ++ t) (hs : ∀ c, c ∈ s → spaceB c = true) (ht : Not1 spaceB t) : skipP l i = i + s.length := by
  unfold skipP
  by_cases c : 0 ≤ i ∧ i < (l.length : Int)
  · rw [if_pos c, h, takeWhile_stop spaceB s t hs ht]
  · rw [if_neg c]
    have := congrArg List.length h
    rw [List.length_drop, List.length_append] at this
    omega
theorem nm_all {nm : List UInt8} (h : NmL nm) : ∃ c r, nm = c :: r ∧ nameB c = true ∧ ∀ d, d ∈ r → (nameB d || moreB d) = true := by
  obtain ⟨h1, h2⟩ := h
  cases nm with
  | nil => exact absurd h1 (by decide)
  | cons c r =>
    rw [nameLen_cons] at h2
    by_cases hc : nameB c = true
    · rw [if_pos hc, List.length_cons] at h2
      exact ⟨c, r, rfl, hc, all_of_takeWhile _ r (by omega)⟩
    · rw [if_neg hc] at h2; simp at h2
theorem name_at (l : List UInt8) (i : Int) (h0 : 0 ≤ i) (nm t : List UInt8) (h : l.drop i.toNat = nm ++ t) (hn : NmL nm) (ht : Not1 (fun d => nameB d || moreB d) t) : nameEndP l i = i + nm.length := by
  obtain ⟨c, r, rfl, hc, hr⟩ := nm_all hn
  have hl := congrArg List.length h
  rw [List.length_drop, List.length_append, List.length_cons] at hl
  unfold nameEndP
  rw [if_pos ⟨h0, by omega⟩, h, List.cons_append, nameLen_cons, if_pos hc, takeWhile_stop _ r t hr ht, List.length_cons]
  omega
theorem stands_yes (d : ByteArray) (i : Int) (s t : List UInt8) (h : d.data.toList.drop i.toNat = s ++ t) : standsB d i ⟨s.toArray⟩ = true := by
  unfold standsB Lib.hasPrefix
  rw [h]
  exact List.isPrefixOf_iff_prefix.2 ⟨t, rfl⟩
theorem stands_no (d : ByteArray) (i : Int) (c x : UInt8) (s t : List UInt8) (h : d.data.toList.drop i.toNat = c :: t) (hx : ¬ c = x) : standsB d i ⟨(x :: s).toArray⟩ = false := by
  rw [stands_in d i c t (x :: s) h]
  simp only [List.isPrefixOf, Bool.and_eq_false_iff, beq_eq_false_iff_ne, ne_eq]
  exact Or.inl (fun e => hx e.symm)
theorem part_at (d : ByteArray) (i j : Int) (s t : List UInt8) (h0 : 0 ≤ i) (hj : j = i + s.length) (h : d.data.toList.drop i.toNat = s ++ t) : partB d i j = ⟨s.toArray⟩ := by
  unfold partB
  apply ByteArray.ext
  apply Array.ext'
  rw [Lib.extract_data, h, show j.toNat - i.toNat = s.length from by omega, List.take_left]
theorem drop_on (l : List UInt8) (i j : Int) (h0 : 0 ≤ i) (s t : List UInt8) (h : l.drop i.toNat = s ++ t) (hj : j = i + s.length) : l.drop j.toNat = t := by
  have : l.drop j.toNat = (l.drop i.toNat).drop s.length := by rw [List.drop_drop]; congr 1; omega
  rw [this, h, List.drop_left]
theorem cut_first (s t : List UInt8) (q : UInt8) (h : ∀ c, c ∈ s → ¬ c = q) : Lib.cut (s ++ q :: t) [q] = (s, t, true) := by
  have hi : Lib.index (s ++ q :: t) [q] = (s.length : Int) := by
    refine Lib.index_first (by simp) ?_ fun j hj => ?_
    · unfold Lib.occAt
      rw [List.drop_left]; simp [List.isPrefixOf]
    · unfold Lib.occAt
      rw [List.drop_append_of_le_length (by omega), List.drop_eq_getElem_cons hj]
      have := h s[j] (List.getElem_mem hj)
      simp only [List.cons_append, List.isPrefixOf, Bool.and_eq_false_iff, beq_eq_false_iff_ne, ne_eq]
      exact Or.inl (fun e => this e.symm)
  unfold Lib.cut
  rw [hi, if_pos (by omega)]
  simp
structure At where
  a : List UInt8
  n : List UInt8
  b : List UInt8
  c : List UInt8
  q : UInt8
  w : List UInt8
  v : List UInt8
def At.out (x : At) : List UInt8 := x.a ++ (x.n ++ (x.b ++ ([61] ++ (x.c ++ ([x.q] ++ (x.w ++ [x.q]))))))
theorem At.out_pos (x : At) : 1 ≤ x.out.length := by unfold At.out; simp only [List.length_append, List.length_cons, List.length_nil]; omega
structure At.Ok (x : At) : Prop where
  a : ¬ x.a = [] ∧ ∀ c, c ∈ x.a → spaceB c = true
  n : NmL x.n
  b : ∀ c, c ∈ x.b → spaceB c = true
  c : ∀ c, c ∈ x.c → spaceB c = true
  q : x.q = 34 ∨ x.q = 39
  w : ∀ c, c ∈ x.w → ¬ c = x.q ∧ ¬ c = 60
  v : dec x.w = some x.v
def keyT (t : Tok) : Int × List UInt8 × List UInt8 := (t.f0, t.f3.data.toList, t.f4.data.toList)
theorem space_other {p : UInt8 → Bool} {s t : List UInt8} (hs : ∀ c, c ∈ s → spaceB c = true) (hp : ∀ c, spaceB c = true → p c = false) (ht : Not1 p t) : Not1 p (s ++ t) := by
  cases s with
  | nil => exact ht
  | cons a s =>
    intro c r e
    injection e with e _
    subst e
    exact hp _ (hs _ (List.mem_cons_self ..))
theorem space_no_name (c : UInt8) (h : spaceB c = true) : (nameB c || moreB c) = false := by
  unfold spaceB at h
  unfold nameB moreB
  simp only [decide_eq_true_eq] at h
  simp only [Bool.or_eq_false_iff, decide_eq_false_iff_not]
  omega
theorem name_no_space (c : UInt8) (h : nameB c = true) : spaceB c = false := by
  unfold spaceB
  unfold nameB at h
  simp only [decide_eq_true_eq] at h
  simp only [decide_eq_false_iff_not]
  omega
theorem not1_cons {p : UInt8 → Bool} {c : UInt8} {t : List UInt8} (h : p c = false) : Not1 p (c :: t) := fun d r e => by injection e with e _; rw [← e]; exact h
theorem nm_not_space {nm t : List UInt8} (h : NmL nm) : Not1 spaceB (nm ++ t) := by
  obtain ⟨c, r, rfl, hc, -⟩ := nm_all h
  exact not1_cons (name_no_space c hc)
theorem attr_at (d : ByteArray) (i : Int) (h0 : 0 ≤ i) (x : At) (hx : x.Ok) (t : List UInt8) (h : d.data.toList.drop i.toNat = x.out ++ t) : ∃ y, attrP d i = some ([y], i + (x.out.length : Int)) ∧ keyT y = (2, x.n, x.v) := by
  have hq34 : spaceB 34 = false ∧ spaceB 39 = false := by decide
  unfold At.out at h ⊢
  simp only [List.append_assoc] at h
  simp only [List.length_append, List.length_cons, List.length_nil]
  obtain ⟨F, hF⟩ : ∃ F, i + (x.a.length : Int) = F := ⟨_, rfl⟩
  obtain ⟨E, hE⟩ : ∃ E, F + (x.n.length : Int) = E := ⟨_, rfl⟩
  obtain ⟨Q, hQ⟩ : ∃ Q, E + (x.b.length : Int) = Q := ⟨_, rfl⟩
  obtain ⟨O, hO⟩ : ∃ O, Q + 1 + (x.c.length : Int) = O := ⟨_, rfl⟩
  have hapos : 0 < x.a.length := List.length_pos_iff.2 hx.a.1
  have hnpos := hx.n.1
  have d1 := drop_on _ i F h0 _ _ h hF.symm
  have d2 := drop_on _ F E (by omega) _ _ d1 hE.symm
  have d3 := drop_on _ E Q (by omega) _ _ d2 hQ.symm
  have d4 := drop_on _ Q (Q + 1) (by omega) _ _ d3 rfl
  have d5 := drop_on _ (Q + 1) O (by omega) _ _ d4 hO.symm
  have d6 := drop_on _ O (O + 1) (by omega) _ _ d5 rfl
  have hqs : spaceB x.q = false := by rcases hx.q with e | e <;> rw [e]; exact hq34.1; exact hq34.2
  have e1 : skipP d.data.toList i = F := (skip_at _ i h0 _ _ h hx.a.2 (nm_not_space hx.n)).trans hF
  have e2 : nameEndP d.data.toList F = E := (name_at _ F (by omega) _ _ d1 hx.n (space_other hx.b space_no_name (not1_cons (by decide)))).trans hE
  have e3 : skipP d.data.toList E = Q := (skip_at _ E (by omega) _ _ d2 hx.b (not1_cons (by decide))).trans hQ
  have e4 : skipP d.data.toList (Q + 1) = O := (skip_at _ (Q + 1) (by omega) _ _ d4 hx.c (not1_cons hqs)).trans hO
  have e5 : standsB d Q ⟨#[61]⟩ = true := stands_yes d Q [61] _ d3
  have e6 : ¬ (standsB d O ⟨#[34]⟩ = false ∧ standsB d O ⟨#[39]⟩ = false) := by
    have := stands_yes d O [x.q] _ d5
    rintro ⟨c1, c2⟩
    rcases hx.q with e | e
    · rw [e] at this
      rw [show (⟨([34] : List UInt8).toArray⟩ : ByteArray) = ⟨#[34]⟩ from rfl, c1] at this; cases this
    · rw [e] at this
      rw [show (⟨([39] : List UInt8).toArray⟩ : ByteArray) = ⟨#[39]⟩ from rfl, c2] at this; cases this
  have e7 : (partB d O (O + 1)).data.toList = [x.q] := by rw [part_at d O (O + 1) [x.q] _ (by omega) rfl d5]
  have e8 : Lib.cut (d.data.toList.drop (O + 1).toNat) (partB d O (O + 1)).data.toList = (x.w, t, true) := by
    rw [e7, d6]
    exact cut_first x.w t x.q fun c hc => (hx.w c hc).1
  have e9 : ¬ 0 ≤ Lib.indexByte x.w 60 := by
    rw [← Lib.index_one, index_out x.w fun c hc => (hx.w c hc).2]; decide
  unfold attrP
  simp only [e1, e2, e3, e4, e8]
  rw [if_neg (by omega), if_neg (by omega), if_neg (by rw [e5]; decide), if_neg e6, if_neg (by decide), if_neg e9, hx.v]
  refine ⟨⟨2, F, O + (x.w.length : Int) + 2, partB d F E, ⟨x.v.toArray⟩⟩, ?_, ?_⟩
  · show some (_, _) = some (_, _)
    rw [Option.some.injEq, Prod.mk.injEq]
    exact ⟨rfl, by omega⟩
  unfold keyT
  rw [part_at d F E x.n _ (by omega) hE.symm d1]
def ends (empty : Bool) : List UInt8 := if empty = true then [47, 62] else [62]
def endKey (empty : Bool) : Int × List UInt8 × List UInt8 := (if empty = true then 4 else 3, [], [])
theorem attrs_at (d : ByteArray) (sp : List UInt8) (hsp : ∀ c, c ∈ sp → spaceB c = true) (empty : Bool) (t : List UInt8) : ∀ (xs : List At) (n : Nat) (i : Int) (acc : List Tok), 0 ≤ i → (∀ x, x ∈ xs → x.Ok) → xs.length < n → d.data.toList.drop i.toNat = xs.flatMap At.out ++ (sp ++ (ends empty ++ t)) →
    ∃ ts, attrsF d n i acc = some (acc ++ ts, i + ((xs.flatMap At.out ++ (sp ++ ends empty)).length : Int)) ∧ ts.map keyT = (xs.map fun x => ((2 : Int), x.n, x.v)) ++ [endKey empty]
  | [], n + 1, i, acc, h0, _, _, h => by
    simp only [List.flatMap_nil, List.nil_append] at h ⊢
    have hns : Not1 spaceB (ends empty ++ t) := by
      unfold ends
      split
      · exact not1_cons (by decide)
      · exact not1_cons (by decide)
    have e1 := skip_at _ i h0 _ _ h hsp hns
    have d1 := drop_on _ i _ h0 _ _ h rfl
    unfold attrsF
    rw [e1]
    cases empty with
    | false =>
      rw [if_pos (stands_yes d _ [62] t d1)]
      refine ⟨[⟨3, i + (sp.length : Int), i + (sp.length : Int) + 1, ⟨#[]⟩, ⟨#[]⟩⟩], ?_, rfl⟩
      rw [Option.some.injEq, Prod.mk.injEq, show ends false = [62] from rfl, List.length_append, List.length_singleton]
      exact ⟨rfl, by omega⟩
    | true =>
      rw [if_neg (by rw [show (⟨#[62]⟩ : ByteArray) = ⟨((62 : UInt8) :: []).toArray⟩ from rfl, stands_no d _ 47 62 [] (62 :: t) d1 (by decide)]; decide), if_pos (stands_yes d _ [47, 62] t d1)]
      refine ⟨[⟨4, i + (sp.length : Int), i + (sp.length : Int) + 2, ⟨#[]⟩, ⟨#[]⟩⟩], ?_, rfl⟩
      rw [Option.some.injEq, Prod.mk.injEq, show ends true = [47, 62] from rfl, List.length_append]
      exact ⟨rfl, by simp only [List.length_cons, List.length_nil]; omega⟩
  | x :: xs, n + 1, i, acc, h0, hx, hn, h => by
    rw [List.flatMap_cons, List.append_assoc] at h
    obtain ⟨y, hy, hk⟩ := attr_at d i h0 x (hx x (List.mem_cons_self ..)) _ h
    have d1 := drop_on _ i _ h0 _ _ h rfl
    obtain ⟨ts, hts, hkk⟩ := attrs_at d sp hsp empty t xs n (i + (x.out.length : Int)) (acc ++ [y]) (by omega) (fun z hz => hx z (List.mem_cons_of_mem _ hz)) (by simpa using hn) d1
    have hox := hx x (List.mem_cons_self ..)
    have e1 : ∃ s u, x.out ++ (xs.flatMap At.out ++ (sp ++ (ends empty ++ t))) = x.a ++ (s :: u) ∧ nameB s = true := by
      obtain ⟨c, r, hc, hc2, -⟩ := nm_all hox.n
      unfold At.out
      rw [hc]
      exact ⟨c, _, by simp only [List.append_assoc, List.cons_append]; rfl, hc2⟩
    obtain ⟨s, u, e1, hs⟩ := e1
    have h' := h
    rw [e1] at h'
    have hsk := skip_at _ i h0 _ _ h' hox.a.2 (not1_cons (name_no_space s hs))
    have d2 := drop_on _ i _ h0 _ _ h' rfl
    have n1 : ¬ s = 62 := fun e => by rw [e] at hs; exact absurd hs (by decide)
    have n2 : ¬ s = 47 := fun e => by rw [e] at hs; exact absurd hs (by decide)
    unfold attrsF
    rw [hsk, if_neg (by rw [show (⟨#[62]⟩ : ByteArray) = ⟨((62 : UInt8) :: []).toArray⟩ from rfl, stands_no d _ s 62 [] u d2 n1]; decide), if_neg (by rw [show (⟨#[47, 62]⟩ : ByteArray) = ⟨((47 : UInt8) :: [62]).toArray⟩ from rfl, stands_no d _ s 47 [62] u d2 n2]; decide), hy]
    refine ⟨y :: ts, ?_, by rw [List.map_cons, List.map_cons, hk, hkk]; rfl⟩
    show attrsF d n _ (acc ++ [y]) = _
    rw [hts, List.append_assoc]
    simp only [List.flatMap_cons, List.append_assoc, List.length_append, List.singleton_append]
    congr 2
    omega
def tagOut (nm : List UInt8) (xs : List At) (sp : List UInt8) (empty : Bool) : List UInt8 := 60 :: (nm ++ (xs.flatMap At.out ++ (sp ++ ends empty)))
theorem tag_lex (d : ByteArray) (nm : List UInt8) (xs : List At) (sp : List UInt8) (empty : Bool) (hd : d.data.toList = tagOut nm xs sp empty) (hn : NmL nm) (hx : ∀ x, x ∈ xs → x.Ok) (hsp : ∀ c, c ∈ sp → spaceB c = true) :
    ∃ ts, lexO d = some ts ∧ ts.map keyT = (1, nm, []) :: ((xs.map fun x => ((2 : Int), x.n, x.v)) ++ [endKey empty]) := by
  unfold tagOut at hd
  have hsz : d.size = (60 :: (nm ++ (xs.flatMap At.out ++ (sp ++ ends empty)))).length := by rw [Lib.size_eq, hd]
  obtain ⟨c, r, hc, hc2, -⟩ := nm_all hn
  have h0 : d.data.toList.drop (0 : Int).toNat = 60 :: (c :: (r ++ (xs.flatMap At.out ++ (sp ++ ends empty)))) := by rw [show (0 : Int).toNat = 0 from rfl, List.drop_zero, hd, hc]; rfl
  have h1 : d.data.toList.drop ((0 : Int) + 1).toNat = nm ++ (xs.flatMap At.out ++ (sp ++ ends empty)) := by rw [show ((0 : Int) + 1).toNat = 1 from rfl, hd]; rfl
  have hnot : Not1 (fun d => nameB d || moreB d) (xs.flatMap At.out ++ (sp ++ ends empty)) := by
    cases xs with
    | nil =>
      simp only [List.flatMap_nil, List.nil_append]
      refine space_other hsp space_no_name ?_
      unfold ends
      split
      · exact not1_cons (by decide)
      · exact not1_cons (by decide)
    | cons x xs =>
      have hox := hx x (List.mem_cons_self ..)
      cases ha : x.a with
      | nil => exact absurd ha hox.a.1
      | cons s u =>
        have hs : spaceB s = true := hox.a.2 s (by rw [ha]; exact List.mem_cons_self ..)
        intro e f he
        rw [List.flatMap_cons] at he
        unfold At.out at he
        rw [ha] at he
        simp only [List.cons_append] at he
        injection he with he _
        subst he
        exact space_no_name _ hs
  have e1 := name_at _ ((0 : Int) + 1) (by omega) _ _ h1 hn hnot
  have d2 := drop_on _ ((0 : Int) + 1) _ (by omega) _ _ h1 rfl
  have hpart := part_at d ((0 : Int) + 1) _ nm _ (by omega) rfl h1
  have hnl := hn.1
  obtain ⟨ts, hts, hk⟩ := attrs_at d sp hsp empty [] xs (d.size + 1) ((0 : Int) + 1 + nm.length) [⟨1, 0, (0 : Int) + 1 + nm.length, ⟨nm.toArray⟩, ⟨#[]⟩⟩] (by omega) hx (by
    rw [hsz]
    have : ∀ ys : List At, ys.length ≤ (ys.flatMap At.out).length := by
      intro ys
      induction ys with
      | nil => simp
      | cons y ys ih => rw [List.flatMap_cons, List.length_append, List.length_cons]; have := y.out_pos; omega
    have := this xs
    simp only [List.length_cons, List.length_append]
    omega) (by rw [d2, List.append_nil])
  have hst : stepP d 0 = some ([⟨1, 0, (0 : Int) + 1 + nm.length, ⟨nm.toArray⟩, ⟨#[]⟩⟩] ++ ts, (d.size : Int)) := by
    unfold stepP
    have n1 : ¬ c = 33 := fun e => by rw [e] at hc2; exact absurd hc2 (by decide)
    have n2 : ¬ c = 47 := fun e => by rw [e] at hc2; exact absurd hc2 (by decide)
    have no : ∀ (x : UInt8) (s : List UInt8), ¬ c = x → standsB d 0 ⟨(60 :: x :: s).toArray⟩ = false := by
      intro x s hcx
      rw [stands_in d 0 60 _ (60 :: x :: s) h0]
      simp only [List.isPrefixOf, Bool.and_eq_false_iff, beq_eq_false_iff_ne, ne_eq]
      exact Or.inr (Or.inl fun e => hcx e.symm)
    rw [if_neg (by rw [show (⟨#[60, 33, 45, 45]⟩ : ByteArray) = ⟨((60 : UInt8) :: 33 :: [45, 45]).toArray⟩ from rfl, no 33 _ n1]; decide),
      if_neg (by rw [show (⟨#[60, 33, 91, 67, 68, 65, 84, 65, 91]⟩ : ByteArray) = ⟨((60 : UInt8) :: 33 :: [91, 67, 68, 65, 84, 65, 91]).toArray⟩ from rfl, no 33 _ n1]; decide),
      if_neg (by rw [show (⟨#[60, 47]⟩ : ByteArray) = ⟨((60 : UInt8) :: 47 :: []).toArray⟩ from rfl, no 47 _ n2]; decide),
      if_pos (stands_yes d 0 [60] _ h0)]
    unfold tagP
    simp only [e1, hpart]
    rw [if_neg (by omega), hts, hsz]
    simp only [List.length_cons, List.length_append]
    congr 2
    omega
  have hpos : 0 < d.size := by rw [hsz]; simp
  refine ⟨[⟨1, 0, (0 : Int) + 1 + nm.length, ⟨nm.toArray⟩, ⟨#[]⟩⟩] ++ ts, ?_, by rw [List.map_append, hk]; rfl⟩
  unfold lexO
  obtain ⟨n, hn⟩ : ∃ n, d.size = n + 1 := ⟨d.size - 1, by omega⟩
  rw [show d.size + 1 = n + 1 + 1 from by omega, lexF, if_pos (by omega), hst]
  simp only [List.nil_append]
  rw [lexF, if_neg (by omega)]
def lowB (c : UInt8) : Prop := c.toNat < 128 ∧ allowedB (c.toNat : Int) = true
theorem valid_lows : ∀ (a t : List UInt8), (∀ c, c ∈ a → lowB c) → validL (a ++ t) = validL t
  | [], t, _ => rfl
  | c :: a, t, h => by
    obtain ⟨h1, h2⟩ := h c (List.mem_cons_self ..)
    obtain ⟨h3, h4⟩ := enc_low c h1
    have := valid_enc (c.toNat : Int) h3 (a ++ t)
    rw [h4, h2, Bool.true_and] at this
    exact this.trans (valid_lows a t fun d hd => h d (List.mem_cons_of_mem _ hd))
theorem low_of {c : UInt8} (h : (32 ≤ c.toNat ∧ c.toNat < 128) ∨ c.toNat = 9 ∨ c.toNat = 10 ∨ c.toNat = 13) : lowB c := by
  refine ⟨by omega, ?_⟩
  unfold allowedB pointB
  simp only [Bool.or_eq_true, beq_iff_eq, Bool.and_eq_true, decide_eq_true_eq, Bool.not_eq_true', beq_eq_false_iff_ne, ne_eq]
  omega
theorem low_space {c : UInt8} (h : spaceB c = true) : lowB c := by
  unfold spaceB at h
  simp only [decide_eq_true_eq] at h
  exact low_of (by omega)
theorem low_name {c : UInt8} (h : (nameB c || moreB c) = true) : lowB c := by
  unfold nameB moreB at h
  simp only [Bool.or_eq_true, decide_eq_true_eq] at h
  exact low_of (by omega)
theorem low_nm {nm : List UInt8} (h : NmL nm) : ∀ c, c ∈ nm → lowB c := by
  obtain ⟨c, r, rfl, hc, hr⟩ := nm_all h
  intro d hd
  rcases List.mem_cons.1 hd with rfl | hd
  · exact low_name (by rw [hc]; rfl)
  · exact low_name (hr d hd)
theorem At.valid {x : At} (h : x.Ok) (hv : validL x.w = true) (t : List UInt8) : validL (x.out ++ t) = validL t := by
  unfold At.out
  simp only [List.append_assoc]
  have hq : ∀ c, c ∈ [x.q] → lowB c := fun c hc => by
    rw [List.mem_singleton] at hc
    subst hc
    rcases h.q with e | e <;> rw [e] <;> exact low_of (by decide)
  rw [valid_lows _ _ (fun c hc => low_space (h.a.2 c hc)), valid_lows _ _ (low_nm h.n), valid_lows _ _ (fun c hc => low_space (h.b c hc)), valid_lows [61] _ (fun c hc => by rw [List.mem_singleton] at hc; subst hc; exact low_of (by decide)),
    valid_lows _ _ (fun c hc => low_space (h.c c hc)), valid_lows _ _ hq, valid_append _ _ hv, valid_lows _ _ hq]
theorem tag_valid {nm : List UInt8} {xs : List At} {sp : List UInt8} {empty : Bool} (hn : NmL nm) (hx : ∀ x, x ∈ xs → x.Ok ∧ validL x.w = true) (hsp : ∀ c, c ∈ sp → spaceB c = true) : validL (tagOut nm xs sp empty) = true := by
  have key : ∀ (ys : List At) (t : List UInt8), (∀ x, x ∈ ys → x.Ok ∧ validL x.w = true) → validL (ys.flatMap At.out ++ t) = validL t := by
    intro ys
    induction ys with
    | nil => intro t _; rfl
    | cons y ys ih =>
      intro t h
      rw [List.flatMap_cons, List.append_assoc, At.valid (h y (List.mem_cons_self ..)).1 (h y (List.mem_cons_self ..)).2, ih t fun x hx => h x (List.mem_cons_of_mem _ hx)]
  unfold tagOut
  show validL ([60] ++ (nm ++ (xs.flatMap At.out ++ (sp ++ ends empty)))) = true
  rw [valid_lows [60] _ (fun c hc => by rw [List.mem_singleton] at hc; subst hc; exact low_of (by decide)), valid_lows _ _ (low_nm hn), key xs _ hx, valid_lows _ _ (fun c hc => low_space (hsp c hc))]
  cases empty <;> rfl
theorem esc_mem : ∀ (l : List UInt8) (c : UInt8), c ∈ escL l → ¬ c = 34 ∧ (c = 39 → c ∈ l)
  | [], c, h => by cases h
  | b :: t, c, h => by
    rw [escL_cons] at h
    rcases List.mem_append.1 h with h | h
    · unfold escB at h
      repeat' split at h
      all_goals first
        | (simp only [List.mem_cons, List.not_mem_nil, or_false] at h; refine ⟨fun e => ?_, fun e => ?_⟩ <;> subst e <;> exact absurd h (by decide))
        | (rw [List.mem_singleton] at h; subst h; exact ⟨by assumption, fun _ => List.mem_cons_self ..⟩)
    · obtain ⟨h1, h2⟩ := esc_mem t c h
      exact ⟨h1, fun e => List.mem_cons_of_mem _ (h2 e)⟩
end Go.Proofs.Ytjlgenefjebcaaa.P12
end
