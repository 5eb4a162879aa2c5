/- Parts of the proof of parserDeep_holds, kept and merged by a program of mine (wip/tools/slim.py) out of my texts: LexE LexF LexG LexI ParB ParC ParD ParV P12g ParI ParN P12h -/
import Derived.Deep.RegionHeld3
import Derived.Lib.SlicesS
import Derived.Test.YtlhhhlimjajnlaaSPd12
import Derived.Test.YtlhhhlimjajnlaaSPd13
import Derived.Test.YtlhhhlimjajnlaaSPd9
import Derived.Test.YtlhhhlimjajnlaaSPd6
import Derived.Test.YtlhhhlimjajnlaaSPd5
section
set_option linter.unusedVariables false
set_option linter.unusedSimpArgs false
namespace Go.Proofs.Ytlhhhlimjajnlaa.X
open Go.RowKit Go.Proofs.Ytlhhhlimjajnlaa Go.Proofs.Ytlhhhlimjajnlaa.Q Go.Proofs.Ytlhhhlimjajnlaa.P11 Go.Proofs.YtlhhhlimjajnlaaW.PrintWords Go.Proofs.YtlhhhlimjajnlaaW.PrintLast Go.Proofs.YtlhhhlimjajnlaaW.PrintMore
variable {w0 W : World} {g : Nat} {d : ByteArray} {a : Int} {ts : List Tok} {x : Bool}
theorem takeWhile_le {α : Type} (p : α → Bool) (l : List α) : (l.takeWhile p).length ≤ l.length := by
  induction l with
  | nil => simp
  | cons c t ih => rw [List.takeWhile_cons]; split <;> simp <;> omega
theorem skipP_in (l : List UInt8) (i : Int) (h0 : 0 ≤ i) (h1 : i ≤ l.length) : i ≤ skipP l i ∧ skipP l i ≤ l.length := by
  unfold skipP
  split
  · have := takeWhile_le spaceB (l.drop i.toNat)
    rw [List.length_drop] at this
    omega
  · omega
theorem nameLen_le (l : List UInt8) : nameLen l ≤ l.length := by
  cases l with
  | nil => simp [nameLen]
  | cons c t =>
    have := takeWhile_le (fun d => nameB d || moreB d) t
    show (if nameB c then 1 + (t.takeWhile fun d => nameB d || moreB d).length else 0) ≤ (c :: t).length
    simp only [List.length_cons]
    split <;> omega
theorem nameEndP_in (l : List UInt8) (i : Int) (h0 : 0 ≤ i) (h1 : i ≤ l.length) : i ≤ nameEndP l i ∧ nameEndP l i ≤ l.length := by
  unfold nameEndP
  split
  · have := nameLen_le (l.drop i.toNat)
    rw [List.length_drop] at this
    omega
  · omega
theorem stands_room (d : ByteArray) (i : Int) (c : UInt8) (h0 : 0 ≤ i) (h : standsB d i ⟨#[c]⟩ = true) : i < (d.size : Int) := by
  unfold standsB Lib.hasPrefix at h
  rw [Lib.size_eq]
  by_cases hlt : i < (d.data.toList.length : Int)
  · exact hlt
  · rw [List.drop_of_length_le (by omega)] at h
    simp at h
def partB (d : ByteArray) (i j : Int) : ByteArray := d.extract i.toNat j.toNat
def closingP (d : ByteArray) (a : Int) : Option (List Tok × Int) :=
  let l := d.data.toList
  let e := nameEndP l (a + 2)
  let t := skipP l e
  if e = a + 2 then none
  else if standsB d t ⟨#[62]⟩ = true then some ([⟨5, a, t + 1, partB d (a + 2) e, ⟨#[]⟩⟩], t + 1) else none
set_option maxHeartbeats 8000000 in
set_option maxRecDepth 100000 in
theorem closing_c (w : World) (h : Rd w0 w g d a ts false) (hl : ts.length ≤ 1000000) (hs : d.size ≤ 4294967280) (h0 : 0 ≤ a) (h4 : a + 2 ≤ (d.size : Int)) :
    Calls Try.prog 39 #[.pointer (some ⟨g, 0, none⟩)] w fun e w' => e = .returned (.tuple #[]) ∧ Step w0 w' g d ts (closingP d a) := by
  have H := Lib.hid h
  have hsz : d.data.toList.length = d.size := (Lib.size_eq d).symm
  obtain ⟨E, hE⟩ : ∃ E, nameEndP d.data.toList (a + 2) = E := ⟨_, rfl⟩
  obtain ⟨T, hT⟩ : ∃ T, skipP d.data.toList E = T := ⟨_, rfl⟩
  have hE1 := nameEndP_in d.data.toList (a + 2) (by omega) (by omega)
  rw [hE] at hE1
  have hT1 := skipP_in d.data.toList E (by omega) (by omega)
  rw [hT] at hT1
  have hN : ∀ W, Calls Try.prog 59 #[.string d, .int .i64 (a + 2)] W fun e w' => e = .returned (.int .i64 E) ∧ Below W.heap.size W w' := fun W => chars_NameEnd.calls d (a + 2) E W (by unfold chars_NameEnd.f; rw [if_pos (by omega), hE])
  have hK : ∀ W, Calls Try.prog 26 #[.string d, .int .i64 E] W fun e w' => e = .returned (.int .i64 T) ∧ Below W.heap.size W w' := fun W => chars_Skip.calls d E T W (by unfold chars_Skip.f; rw [if_pos (by omega), hT])
  have hP : closingP d a = if E = a + 2 then none else if standsB d T ⟨#[62]⟩ = true then some ([⟨5, a, T + 1, partB d (a + 2) E, ⟨#[]⟩⟩], T + 1) else none := by unfold closingP; simp only [hE, hT]
  have hc0 := h.c0
  have hc1 := h.c1
  have hw : IntKind.i64.wrap (a + 2) = a + 2 := by rw [IntKind.wrap_i64]; omega
  have hw2 : IntKind.i64.wrap (T + 1) = T + 1 := by rw [IntKind.wrap_i64]; omega
  rw [hP]
  clear hP
  clear h hE hT
  by_cases c1 : E = a + 2
  · rw [if_pos c1]
    have b1 : (E == a + 2) = true := by rw [c1]; exact beq_self_eq_true _
    have b2 := eq_true c1
    clear c1
    go_enter Try.func39, Try.ntmps39
    go_wp2_with (first | (go_at_call 59; (with_reducible refine (hN _).mono ?_); rintro e w1 ⟨rfl, hb_⟩; have H1 := Lib.hid (show Rd w0 w1 g d a ts false from by first | exact H.out.below hb_ | exact (H.out.drewN _).below hb_); have hd0 := H1.out.c0; have hd1 := H1.out.c1; clear hb_) | (go_at_call 26; (with_reducible refine (hK _).mono ?_); rintro e w2 ⟨rfl, hb_⟩; have H2 := Lib.hid (show Rd w0 w2 g d a ts false from by first | exact H1.out.below hb_ | exact (H1.out.drewN _).below hb_); have he0 := H2.out.c0; have he1 := H2.out.c1; clear hb_) | (go_at_call 56; (with_reducible refine (fails_c _ (by first | exact H2.out | exact H2.out.drewN _)).mono ?_); rintro e w3 ⟨rfl, hf⟩))
    first | go_end0 | go_ret | ((try simp only [Exit.inBlock, Exit.then]); refine bodyPost_ret (results_none rfl _ _ _) rfl ?_)
    exact ⟨rfl, _, _, hf⟩
  rw [if_neg c1]
  have b1 : (E == a + 2) = false := beq_eq_false_iff_ne.2 c1
  have b2 := eq_false c1
  clear c1
  have hroom := stands_room d T 62 (by omega)
  obtain ⟨s, hS⟩ : ∃ s, standsB d T ⟨#[62]⟩ = s := ⟨_, rfl⟩
  rw [hS] at hroom ⊢
  have HS := Lib.hid hS
  cases s with
  | false =>
    rw [if_neg (by decide)]
    clear hroom
    go_enter Try.func39, Try.ntmps39
    go_wp2_with (first | (go_at_call 59; (with_reducible refine (hN _).mono ?_); rintro e w1 ⟨rfl, hb_⟩; have H1 := Lib.hid (show Rd w0 w1 g d a ts false from by first | exact H.out.below hb_ | exact (H.out.drewN _).below hb_); have hd0 := H1.out.c0; have hd1 := H1.out.c1; clear hb_) | (go_at_call 26; (with_reducible refine (hK _).mono ?_); rintro e w2 ⟨rfl, hb_⟩; have H2 := Lib.hid (show Rd w0 w2 g d a ts false from by first | exact H1.out.below hb_ | exact (H1.out.drewN _).below hb_); have he0 := H2.out.c0; have he1 := H2.out.c1; clear hb_) | (go_at_call 36; (with_reducible refine (stands_c _ (by first | exact H2.out | exact H2.out.drewN _) T _ (by omega)).mono ?_); rintro e w' ⟨rfl, n1, rfl⟩) | (go_at_call 56; (with_reducible refine (fails_c _ (by first | exact H2.out | exact H2.out.drewN _)).mono ?_); rintro e w3 ⟨rfl, hf⟩))
    first | go_end0 | go_ret | ((try simp only [Exit.inBlock, Exit.then]); refine bodyPost_ret (results_none rfl _ _ _) rfl ?_)
    exact ⟨rfl, _, _, hf⟩
  | true =>
    rw [if_pos rfl]
    have hroom := hroom rfl
    go_enter Try.func39, Try.ntmps39
    go_wp2_with (first | (go_at_call 59; (with_reducible refine (hN _).mono ?_); rintro e w1 ⟨rfl, hb_⟩; have H1 := Lib.hid (show Rd w0 w1 g d a ts false from by first | exact H.out.below hb_ | exact (H.out.drewN _).below hb_); have hd0 := H1.out.c0; have hd1 := H1.out.c1; clear hb_) | (go_at_call 26; (with_reducible refine (hK _).mono ?_); rintro e w2 ⟨rfl, hb_⟩; have H2 := Lib.hid (show Rd w0 w2 g d a ts false from by first | exact H1.out.below hb_ | exact (H1.out.drewN _).below hb_); have he0 := H2.out.c0; have he1 := H2.out.c1; clear hb_) | (go_at_call 36; (with_reducible refine (stands_c _ (by first | exact H2.out | exact H2.out.drewN _) T _ (by omega)).mono ?_); rintro e w' ⟨rfl, n1, rfl⟩))
    have HR := H2.out.drewN n1
    have hx0 := HR.c0
    have hx1 := HR.c1
    have hy0 := HR.drew.c0
    have hy1 := HR.drew.c1
    clear HR
    have g0 : decide (0 ≤ a + 2) = true := decide_eq_true (by omega)
    have g1 : decide (a + 2 ≤ E) = true := decide_eq_true (by omega)
    have g2 : decide (E ≤ (d.size : Int)) = true := decide_eq_true (by omega)
    have g0' := eq_true (show 0 ≤ a + 2 by omega)
    have g1' := eq_true (show a + 2 ≤ E by omega)
    have g2' := eq_true (show E ≤ (d.size : Int) by omega)
    go_region_with (go_at_call 57; refine (tell_c (w0 := w0) (g := g) (d := d) (a := a) (ts := ts) (x := false) _ (H2.out.drewN _) 5 a _ _ _ hl).mono ?_; rintro e w' ⟨rfl, hr⟩)
    all_goals
      go_wp2
      first | go_end0 | ((try simp only [Exit.inBlock, Exit.then]); refine bodyPost_ret (results_none rfl _ _ _) rfl ?_)
      exact ⟨rfl, hr⟩
end Go.Proofs.Ytlhhhlimjajnlaa.X
end
section
set_option linter.unusedVariables false
set_option linter.unusedSimpArgs false
namespace Go.Proofs.Ytlhhhlimjajnlaa.X
open Go.RowKit Go.Proofs.Ytlhhhlimjajnlaa Go.Proofs.Ytlhhhlimjajnlaa.Q Go.Proofs.Ytlhhhlimjajnlaa.P11 Go.Proofs.YtlhhhlimjajnlaaW.PrintWords Go.Proofs.YtlhhhlimjajnlaaW.PrintLast Go.Proofs.YtlhhhlimjajnlaaW.PrintMore
variable {w0 W : World} {g : Nat} {d : ByteArray} {a : Int} {ts : List Tok} {x : Bool}
def attrP (d : ByteArray) (a : Int) : Option (List Tok × Int) :=
  let l := d.data.toList
  let F := skipP l a
  let E := nameEndP l F
  let Q := skipP l E
  let O := skipP l (Q + 1)
  let c := Lib.cut (l.drop (O + 1).toNat) (partB d O (O + 1)).data.toList
  if F = a then none
  else if E = F then none
  else if standsB d Q ⟨#[61]⟩ = false then none
  else if standsB d O ⟨#[34]⟩ = false ∧ standsB d O ⟨#[39]⟩ = false then none
  else if c.2.2 = false then none
  else if 0 ≤ Lib.indexByte c.1 60 then none
  else match dec c.1 with
    | some v => some ([⟨2, F, O + (c.1.length : Int) + 2, partB d F E, ⟨v.toArray⟩⟩], O + (c.1.length : Int) + 2)
    | none => none
set_option maxHeartbeats 16000000 in
set_option maxRecDepth 100000 in
theorem attr_c (w : World) (h : Rd w0 w g d a ts false) (hG : G w0) (hl : ts.length ≤ 1000000) (hs : d.size ≤ 4294967200) (h0 : 0 ≤ a) (h4 : a ≤ (d.size : Int)) :
    Calls Try.prog 60 #[.pointer (some ⟨g, 0, none⟩)] w fun e w' => e = .returned (.tuple #[]) ∧ Step w0 w' g d ts (attrP d a) := by
  have H := Lib.hid h
  have hsz : d.data.toList.length = d.size := (Lib.size_eq d).symm
  obtain ⟨F, hF⟩ : ∃ F, skipP d.data.toList a = F := ⟨_, rfl⟩
  obtain ⟨E, hE⟩ : ∃ E, nameEndP d.data.toList F = E := ⟨_, rfl⟩
  obtain ⟨Q, hQ⟩ : ∃ Q, skipP d.data.toList E = Q := ⟨_, rfl⟩
  obtain ⟨O, hO⟩ : ∃ O, skipP d.data.toList (Q + 1) = O := ⟨_, rfl⟩
  have hF1 := skipP_in d.data.toList a (by omega) (by omega)
  rw [hF] at hF1
  have hE1 := nameEndP_in d.data.toList F (by omega) (by omega)
  rw [hE] at hE1
  have hQ1 := skipP_in d.data.toList E (by omega) (by omega)
  rw [hQ] at hQ1
  have hK0 : ∀ W, Calls Try.prog 26 #[.string d, .int .i64 a] W fun e w' => e = .returned (.int .i64 F) ∧ Below W.heap.size W w' := fun W => chars_Skip.calls d a F W (by unfold chars_Skip.f; rw [if_pos (by omega), hF])
  have hN : ∀ W, Calls Try.prog 59 #[.string d, .int .i64 F] W fun e w' => e = .returned (.int .i64 E) ∧ Below W.heap.size W w' := fun W => chars_NameEnd.calls d F E W (by unfold chars_NameEnd.f; rw [if_pos (by omega), hE])
  have hKE : ∀ W, Calls Try.prog 26 #[.string d, .int .i64 E] W fun e w' => e = .returned (.int .i64 Q) ∧ Below W.heap.size W w' := fun W => chars_Skip.calls d E Q W (by unfold chars_Skip.f; rw [if_pos (by omega), hQ])
  have hKO : ∀ W, Calls Try.prog 26 #[.string d, .int .i64 (Q + 1)] W fun e w' => e = .returned (.int .i64 O) ∧ Below W.heap.size W w' := fun W => chars_Skip.calls d (Q + 1) O W (by unfold chars_Skip.f; rw [if_pos (by omega), hO])
  obtain ⟨P, hP⟩ : ∃ P, attrP d a = P := ⟨_, rfl⟩
  rw [hP]
  unfold attrP at hP
  simp only [hF, hE, hQ, hO] at hP
  have hc0 := h.c0
  have hc1 := h.c1
  have hx0 := h.drew.c0
  have hx1 := h.drew.c1
  have hw : IntKind.i64.wrap (Q + 1) = Q + 1 := by rw [IntKind.wrap_i64]; omega
  clear h
  by_cases c1 : F = a
  · rw [if_pos c1] at hP
    subst hP
    have b1 : (F == a) = true := by rw [c1]; exact beq_self_eq_true _
    have b2 := eq_true c1
    clear c1
    go_enter Try.func60, Try.ntmps60
    go_wp2
    go_region_held3 (fun W => W.cell? ⟨g, 0, none⟩ = some (.string d) ∧ W.cell? ⟨g, 1, none⟩ = some (.int .i64 a)) (first | exact ⟨by assumption, by assumption⟩ | go_keep) ((go_at_call 26; (with_reducible refine (hK0 _).mono ?_); rintro e w1 ⟨rfl, hb_⟩; have H1 := Lib.hid (show Rd w0 w1 g d a ts false from by first | exact H.out.below hb_ | exact (H.out.drewN _).below hb_ | exact (H.out.drew).below hb_); have hd0 := H1.out.c0; have hd1 := H1.out.c1; clear hb_))
    go_wp2_with (first | (go_at_call 59; (with_reducible refine (hN _).mono ?_); rintro e w2 ⟨rfl, hb_⟩; have H2 := Lib.hid (show Rd w0 w2 g d a ts false from by first | exact H1.out.below hb_ | exact (H1.out.drewN _).below hb_ | exact (H1.out.drew).below hb_); have he0 := H2.out.c0; have he1 := H2.out.c1; clear hb_) | (go_at_call 26; (with_reducible refine (hKE _).mono ?_); rintro e w3 ⟨rfl, hb_⟩; have H3 := Lib.hid (show Rd w0 w3 g d a ts false from by first | exact H2.out.below hb_ | exact (H2.out.drewN _).below hb_ | exact (H2.out.drew).below hb_); have hf0 := H3.out.c0; have hf1 := H3.out.c1; clear hb_) | (go_at_call 56; (with_reducible refine (fails_c _ (by first | exact H3.out | exact H3.out.drewN _)).mono ?_); rintro e w' ⟨rfl, hf_⟩))
    first | go_end0 | go_ret | ((try simp only [Exit.inBlock, Exit.then]); refine bodyPost_ret (results_none rfl _ _ _) rfl ?_)
    exact ⟨rfl, _, _, hf_⟩
  rw [if_neg c1] at hP
  have b1 : (F == a) = false := beq_eq_false_iff_ne.2 c1
  have b2 := eq_false c1
  clear c1
  by_cases c2 : E = F
  · rw [if_pos c2] at hP
    subst hP
    have b3 : (E == F) = true := by rw [c2]; exact beq_self_eq_true _
    have b4 := eq_true c2
    clear c2
    go_enter Try.func60, Try.ntmps60
    go_wp2
    go_region_held3 (fun W => W.cell? ⟨g, 0, none⟩ = some (.string d) ∧ W.cell? ⟨g, 1, none⟩ = some (.int .i64 a)) (first | exact ⟨by assumption, by assumption⟩ | go_keep) ((go_at_call 26; (with_reducible refine (hK0 _).mono ?_); rintro e w1 ⟨rfl, hb_⟩; have H1 := Lib.hid (show Rd w0 w1 g d a ts false from by first | exact H.out.below hb_ | exact (H.out.drewN _).below hb_ | exact (H.out.drew).below hb_); have hd0 := H1.out.c0; have hd1 := H1.out.c1; clear hb_))
    go_wp2_with (first | (go_at_call 59; (with_reducible refine (hN _).mono ?_); rintro e w2 ⟨rfl, hb_⟩; have H2 := Lib.hid (show Rd w0 w2 g d a ts false from by first | exact H1.out.below hb_ | exact (H1.out.drewN _).below hb_ | exact (H1.out.drew).below hb_); have he0 := H2.out.c0; have he1 := H2.out.c1; clear hb_) | (go_at_call 26; (with_reducible refine (hKE _).mono ?_); rintro e w3 ⟨rfl, hb_⟩; have H3 := Lib.hid (show Rd w0 w3 g d a ts false from by first | exact H2.out.below hb_ | exact (H2.out.drewN _).below hb_ | exact (H2.out.drew).below hb_); have hf0 := H3.out.c0; have hf1 := H3.out.c1; clear hb_) | (go_at_call 56; (with_reducible refine (fails_c _ (by first | exact H3.out | exact H3.out.drewN _)).mono ?_); rintro e w' ⟨rfl, hf_⟩))
    first | go_end0 | go_ret | ((try simp only [Exit.inBlock, Exit.then]); refine bodyPost_ret (results_none rfl _ _ _) rfl ?_)
    exact ⟨rfl, _, _, hf_⟩
  rw [if_neg c2] at hP
  have b3 : (E == F) = false := beq_eq_false_iff_ne.2 c2
  have b4 := eq_false c2
  clear c2
  have hroom := stands_room d Q 61 (by omega)
  obtain ⟨s1, hS1⟩ : ∃ s, standsB d Q ⟨#[61]⟩ = s := ⟨_, rfl⟩
  rw [hS1] at hroom hP
  have HS1 := Lib.hid hS1
  cases s1 with
  | false =>
    rw [if_pos rfl] at hP
    subst hP
    clear hroom
    go_enter Try.func60, Try.ntmps60
    go_wp2
    go_region_held3 (fun W => W.cell? ⟨g, 0, none⟩ = some (.string d) ∧ W.cell? ⟨g, 1, none⟩ = some (.int .i64 a)) (first | exact ⟨by assumption, by assumption⟩ | go_keep) ((go_at_call 26; (with_reducible refine (hK0 _).mono ?_); rintro e w1 ⟨rfl, hb_⟩; have H1 := Lib.hid (show Rd w0 w1 g d a ts false from by first | exact H.out.below hb_ | exact (H.out.drewN _).below hb_ | exact (H.out.drew).below hb_); have hd0 := H1.out.c0; have hd1 := H1.out.c1; clear hb_))
    go_wp2_with (first | (go_at_call 59; (with_reducible refine (hN _).mono ?_); rintro e w2 ⟨rfl, hb_⟩; have H2 := Lib.hid (show Rd w0 w2 g d a ts false from by first | exact H1.out.below hb_ | exact (H1.out.drewN _).below hb_ | exact (H1.out.drew).below hb_); have he0 := H2.out.c0; have he1 := H2.out.c1; clear hb_) | (go_at_call 26; (with_reducible refine (hKE _).mono ?_); rintro e w3 ⟨rfl, hb_⟩; have H3 := Lib.hid (show Rd w0 w3 g d a ts false from by first | exact H2.out.below hb_ | exact (H2.out.drewN _).below hb_ | exact (H2.out.drew).below hb_); have hf0 := H3.out.c0; have hf1 := H3.out.c1; clear hb_) | (go_at_call 36; (with_reducible refine (stands_c _ (by first | exact H3.out | exact H3.out.drewN _) Q _ (by omega)).mono ?_); rintro e w' ⟨rfl, n_, rfl⟩) | (go_at_call 56; (with_reducible refine (fails_c _ (by first | exact H3.out | exact H3.out.drewN _)).mono ?_); rintro e w' ⟨rfl, hf_⟩))
    first | go_end0 | go_ret | ((try simp only [Exit.inBlock, Exit.then]); refine bodyPost_ret (results_none rfl _ _ _) rfl ?_)
    exact ⟨rfl, _, _, hf_⟩
  | true =>
    rw [if_neg (by decide)] at hP
    have hroom := hroom rfl
    have hO1 := skipP_in d.data.toList (Q + 1) (by omega) (by omega)
    rw [hO] at hO1
    obtain ⟨s2, hS2⟩ : ∃ s, standsB d O ⟨#[34]⟩ = s := ⟨_, rfl⟩
    obtain ⟨s3, hS3⟩ : ∃ s, standsB d O ⟨#[39]⟩ = s := ⟨_, rfl⟩
    have hroom2 := stands_room d O 34 (by omega)
    have hroom3 := stands_room d O 39 (by omega)
    rw [hS2] at hroom2 hP
    rw [hS3] at hroom3 hP
    have HS2 := Lib.hid hS2
    have HS3 := Lib.hid hS3
    by_cases c3 : s2 = false ∧ s3 = false
    · rw [if_pos c3] at hP
      subst hP
      obtain ⟨rfl, rfl⟩ := c3
      clear hroom2 hroom3
      go_enter Try.func60, Try.ntmps60
      go_wp2
      go_region_held3 (fun W => W.cell? ⟨g, 0, none⟩ = some (.string d) ∧ W.cell? ⟨g, 1, none⟩ = some (.int .i64 a)) (first | exact ⟨by assumption, by assumption⟩ | go_keep) ((go_at_call 26; (with_reducible refine (hK0 _).mono ?_); rintro e w1 ⟨rfl, hb_⟩; have H1 := Lib.hid (show Rd w0 w1 g d a ts false from by first | exact H.out.below hb_ | exact (H.out.drewN _).below hb_ | exact (H.out.drew).below hb_); have hd0 := H1.out.c0; have hd1 := H1.out.c1; clear hb_))
      go_wp2_with (first | (go_at_call 59; (with_reducible refine (hN _).mono ?_); rintro e w2 ⟨rfl, hb_⟩; have H2 := Lib.hid (show Rd w0 w2 g d a ts false from by first | exact H1.out.below hb_ | exact (H1.out.drewN _).below hb_ | exact (H1.out.drew).below hb_); have he0 := H2.out.c0; have he1 := H2.out.c1; clear hb_) | (go_at_call 26; (with_reducible refine (hKE _).mono ?_); rintro e w3 ⟨rfl, hb_⟩; have H3 := Lib.hid (show Rd w0 w3 g d a ts false from by first | exact H2.out.below hb_ | exact (H2.out.drewN _).below hb_ | exact (H2.out.drew).below hb_); have hf0 := H3.out.c0; have hf1 := H3.out.c1; clear hb_) | (go_at_call 36; (with_reducible refine (stands_c _ (by first | exact H3.out | exact H3.out.drewN _) Q _ (by omega)).mono ?_); rintro e w' ⟨rfl, n_, rfl⟩) | (go_at_call 26; (with_reducible refine (hKO _).mono ?_); rintro e w4 ⟨rfl, hb_⟩; have H4 := Lib.hid (show Rd w0 w4 g d a ts false from by first | exact H3.out.below hb_ | exact (H3.out.drewN _).below hb_ | exact (H3.out.drew).below hb_); have hg0 := H4.out.c0; have hg1 := H4.out.c1; clear hb_) | (go_at_call 36; (with_reducible refine (stands_c _ (by first | exact H4.out | exact H4.out.drewN _) O _ (by omega)).mono ?_); rintro e w' ⟨rfl, n_, rfl⟩) | (go_at_call 56; (with_reducible refine (fails_c _ (by first | exact H4.out | exact H4.out.drewN _)).mono ?_); rintro e w' ⟨rfl, hf_⟩))
      first | go_end0 | go_ret | ((try simp only [Exit.inBlock, Exit.then]); refine bodyPost_ret (results_none rfl _ _ _) rfl ?_)
      exact ⟨rfl, _, _, hf_⟩
    rw [if_neg c3] at hP
    have hO2 : O < (d.size : Int) := by
      cases s2 with
      | true => exact hroom2 rfl
      | false => cases s3 with
        | true => exact hroom3 rfl
        | false => exact absurd ⟨rfl, rfl⟩ c3
    have hqt : s2 = true ∨ (s2 = false ∧ s3 = true) := by
      cases s2 with
      | true => exact .inl rfl
      | false => cases s3 with
        | true => exact .inr ⟨rfl, rfl⟩
        | false => exact absurd ⟨rfl, rfl⟩ c3
    clear c3 hroom2 hroom3 HS1 HS2 HS3
    obtain ⟨B, hB⟩ : ∃ B, d.extract (O + 1).toNat d.size = B := ⟨_, rfl⟩
    obtain ⟨Z, hZ⟩ : ∃ Z, d.extract O.toNat (O + 1).toNat = Z := ⟨_, rfl⟩
    have hZ' : partB d O (O + 1) = Z := hZ
    have hBl : B.data.toList = d.data.toList.drop (O + 1).toNat := by
      rw [← hB, Lib.extract_data, List.take_of_length_le (by rw [List.length_drop, ← Lib.size_eq]; exact Nat.le_refl _)]
    have hBs : B.size ≤ d.size := by rw [Lib.size_eq, hBl, List.length_drop, ← Lib.size_eq]; omega
    obtain ⟨m, hm⟩ := hG
    have hcell : ∀ W, Below w0.heap.size w0 W → W.cell? ⟨0, 0, none⟩ = some (.int .i64 m) := fun W hb => by
      have hlt := World.block_lt_of_cell? _ _ hm
      rw [← hm]; unfold World.cell?
      simp only [hb.block 0 hlt]
    obtain ⟨C1, hC1⟩ : ∃ C1, (⟨(Lib.cut B.data.toList Z.data.toList).1.toArray⟩ : ByteArray) = C1 := ⟨_, rfl⟩
    obtain ⟨C2, hC2⟩ : ∃ C2, (⟨(Lib.cut B.data.toList Z.data.toList).2.1.toArray⟩ : ByteArray) = C2 := ⟨_, rfl⟩
    obtain ⟨q, hq⟩ : ∃ q, (Lib.cut B.data.toList Z.data.toList).2.2 = q := ⟨_, rfl⟩
    have hCx : ∀ W, Below w0.heap.size w0 W → Calls Try.prog 58 #[.string B, .string Z] W fun e w' => e = .returned (.tuple #[.string C1, .string C2, .bool q]) ∧ ∃ n, w' = W.drewN n := fun W hb => by
      have := Try.strings_Cut B Z m W (by omega) (hcell W hb)
      rw [← hC1, ← hC2, ← hq]; exact this
    have HCx := Lib.hid hCx
    have hC1l : C1.data.toList = (Lib.cut B.data.toList Z.data.toList).1 := by rw [← hC1]
    have hC1s : C1.size ≤ B.size := by
      rw [Lib.size_eq, Lib.size_eq, hC1l]; exact cut_le _ _
    obtain ⟨ct, hct⟩ : ∃ ct, decide (0 ≤ Lib.indexByte C1.data.toList 60) = ct := ⟨_, rfl⟩
    have hCo : ∀ W, Calls Try.prog 70 #[.string C1, .string ⟨#[60]⟩] W fun e w' => e = .returned (.bool ct) ∧ w' = W := fun W => by
      have := Try.strings_Contains_one C1 60 W
      rw [hct] at this; exact this
    rw [hZ', ← hBl, ← hC1l, hq] at hP
    have hw3 : IntKind.i64.wrap (O + 1) = O + 1 := by rw [IntKind.wrap_i64]; omega
    have g0 : decide (0 ≤ O) = true := decide_eq_true (by omega)
    have g1 : decide (0 ≤ O + 1) = true := decide_eq_true (by omega)
    have g2 : decide (O + 1 ≤ (d.size : Int)) = true := decide_eq_true (by omega)
    have g3 : decide (O ≤ O + 1) = true := decide_eq_true (by omega)
    have g0' := eq_true (show 0 ≤ O by omega)
    have g1' := eq_true (show 0 ≤ O + 1 by omega)
    have g2' := eq_true (show O + 1 ≤ (d.size : Int) by omega)
    have g3' := eq_true (show O ≤ O + 1 by omega)
    clear hCx hcell hm hC1 hC2 hF hE hQ hO
    cases q with
    | false =>
      rw [if_pos rfl] at hP
      subst hP
      rcases hqt with rfl | ⟨rfl, rfl⟩
      all_goals
        go_enter Try.func60, Try.ntmps60
        go_wp2
        go_region_held3 (fun W => W.cell? ⟨g, 0, none⟩ = some (.string d) ∧ W.cell? ⟨g, 1, none⟩ = some (.int .i64 a)) (first | exact ⟨by assumption, by assumption⟩ | go_keep) ((go_at_call 26; (with_reducible refine (hK0 _).mono ?_); rintro e w1 ⟨rfl, hb_⟩; have H1 := Lib.hid (show Rd w0 w1 g d a ts false from by first | exact H.out.below hb_ | exact (H.out.drewN _).below hb_ | exact (H.out.drew).below hb_); have hd0 := H1.out.c0; have hd1 := H1.out.c1; clear hb_))
        go_wp2_with (first | (go_at_call 59; (with_reducible refine (hN _).mono ?_); rintro e w2 ⟨rfl, hb_⟩; have H2 := Lib.hid (show Rd w0 w2 g d a ts false from by first | exact H1.out.below hb_ | exact (H1.out.drewN _).below hb_ | exact (H1.out.drew).below hb_); have he0 := H2.out.c0; have he1 := H2.out.c1; clear hb_) | (go_at_call 26; (with_reducible refine (hKE _).mono ?_); rintro e w3 ⟨rfl, hb_⟩; have H3 := Lib.hid (show Rd w0 w3 g d a ts false from by first | exact H2.out.below hb_ | exact (H2.out.drewN _).below hb_ | exact (H2.out.drew).below hb_); have hf0 := H3.out.c0; have hf1 := H3.out.c1; clear hb_) | (go_at_call 36; (with_reducible refine (stands_c _ (by first | exact H3.out | exact H3.out.drewN _) Q _ (by omega)).mono ?_); rintro e w' ⟨rfl, n_, rfl⟩) | (go_at_call 26; (with_reducible refine (hKO _).mono ?_); rintro e w4 ⟨rfl, hb_⟩; have H4 := Lib.hid (show Rd w0 w4 g d a ts false from by first | exact H3.out.below hb_ | exact (H3.out.drewN _).below hb_ | exact (H3.out.drew).below hb_); have hg0 := H4.out.c0; have hg1 := H4.out.c1; clear hb_) | (go_at_call 36; (with_reducible refine (stands_c _ (by first | exact H4.out | exact H4.out.drewN _) O _ (by omega)).mono ?_); rintro e w' ⟨rfl, n_, rfl⟩))
        go_region_held3 (fun W => W.cell? ⟨g, 0, none⟩ = some (.string d)) (first | assumption | exact Rd.c0 (w0 := w0) (g := g) (d := d) (a := a) (ts := ts) (x := false) (by first | exact H4.out | exact H4.out.drewN _ | exact H4.out.drew | exact (H4.out.drewN _).drew | exact (H4.out.drewN _).drew.drewN _ | exact H4.out.drew.drewN _ | exact (H4.out.drewN _).drewN _) | go_keep) ((go_at_call 58; refine (HCx.out _ ?_).mono ?_; exact (Rd.bel (g := g) (d := d) (a := a) (ts := ts) (x := false) (by first | exact H4.out | exact H4.out.drewN _ | exact H4.out.drew | exact (H4.out.drewN _).drew | exact (H4.out.drewN _).drew.drewN _ | exact H4.out.drew.drewN _ | exact (H4.out.drewN _).drewN _)); rintro e w' ⟨rfl, n8, rfl⟩))
        go_wp2_with (first | (go_at_call 56; (with_reducible refine (fails_c _ (by first | exact H4.out | exact H4.out.drewN _)).mono ?_); rintro e w' ⟨rfl, hf_⟩))
        first | go_end0 | go_ret | ((try simp only [Exit.inBlock, Exit.then]); refine bodyPost_ret (results_none rfl _ _ _) rfl ?_)
        exact ⟨rfl, _, _, hf_⟩
    | true =>
      rw [if_neg (by decide)] at hP
      cases ct with
      | true =>
        rw [if_pos (of_decide_eq_true hct)] at hP
        subst hP
        rcases hqt with rfl | ⟨rfl, rfl⟩
        all_goals
          go_enter Try.func60, Try.ntmps60
          go_wp2
          go_region_held3 (fun W => W.cell? ⟨g, 0, none⟩ = some (.string d) ∧ W.cell? ⟨g, 1, none⟩ = some (.int .i64 a)) (first | exact ⟨by assumption, by assumption⟩ | go_keep) ((go_at_call 26; (with_reducible refine (hK0 _).mono ?_); rintro e w1 ⟨rfl, hb_⟩; have H1 := Lib.hid (show Rd w0 w1 g d a ts false from by first | exact H.out.below hb_ | exact (H.out.drewN _).below hb_ | exact (H.out.drew).below hb_); have hd0 := H1.out.c0; have hd1 := H1.out.c1; clear hb_))
          go_wp2_with (first | (go_at_call 59; (with_reducible refine (hN _).mono ?_); rintro e w2 ⟨rfl, hb_⟩; have H2 := Lib.hid (show Rd w0 w2 g d a ts false from by first | exact H1.out.below hb_ | exact (H1.out.drewN _).below hb_ | exact (H1.out.drew).below hb_); have he0 := H2.out.c0; have he1 := H2.out.c1; clear hb_) | (go_at_call 26; (with_reducible refine (hKE _).mono ?_); rintro e w3 ⟨rfl, hb_⟩; have H3 := Lib.hid (show Rd w0 w3 g d a ts false from by first | exact H2.out.below hb_ | exact (H2.out.drewN _).below hb_ | exact (H2.out.drew).below hb_); have hf0 := H3.out.c0; have hf1 := H3.out.c1; clear hb_) | (go_at_call 36; (with_reducible refine (stands_c _ (by first | exact H3.out | exact H3.out.drewN _) Q _ (by omega)).mono ?_); rintro e w' ⟨rfl, n_, rfl⟩) | (go_at_call 26; (with_reducible refine (hKO _).mono ?_); rintro e w4 ⟨rfl, hb_⟩; have H4 := Lib.hid (show Rd w0 w4 g d a ts false from by first | exact H3.out.below hb_ | exact (H3.out.drewN _).below hb_ | exact (H3.out.drew).below hb_); have hg0 := H4.out.c0; have hg1 := H4.out.c1; clear hb_) | (go_at_call 36; (with_reducible refine (stands_c _ (by first | exact H4.out | exact H4.out.drewN _) O _ (by omega)).mono ?_); rintro e w' ⟨rfl, n_, rfl⟩))
          go_region_held3 (fun W => W.cell? ⟨g, 0, none⟩ = some (.string d)) (first | assumption | exact Rd.c0 (w0 := w0) (g := g) (d := d) (a := a) (ts := ts) (x := false) (by first | exact H4.out | exact H4.out.drewN _ | exact H4.out.drew | exact (H4.out.drewN _).drew | exact (H4.out.drewN _).drew.drewN _ | exact H4.out.drew.drewN _ | exact (H4.out.drewN _).drewN _) | go_keep) ((go_at_call 58; refine (HCx.out _ ?_).mono ?_; exact (Rd.bel (g := g) (d := d) (a := a) (ts := ts) (x := false) (by first | exact H4.out | exact H4.out.drewN _ | exact H4.out.drew | exact (H4.out.drewN _).drew | exact (H4.out.drewN _).drew.drewN _ | exact H4.out.drew.drewN _ | exact (H4.out.drewN _).drewN _)); rintro e w' ⟨rfl, n8, rfl⟩))
          go_wp2_with (first | (go_at_call 70; (with_reducible refine (hCo _).mono ?_); rintro e w' ⟨rfl, rfl⟩) | (go_at_call 56; (with_reducible refine (fails_c _ (by first | exact H4.out | exact H4.out.drewN _)).mono ?_); rintro e w' ⟨rfl, hf_⟩))
          first | go_end0 | go_ret | ((try simp only [Exit.inBlock, Exit.then]); refine bodyPost_ret (results_none rfl _ _ _) rfl ?_)
          exact ⟨rfl, _, _, hf_⟩
      | false =>
        rw [if_neg (of_decide_eq_false hct)] at hP
        have hw4 : IntKind.i64.wrap (IntKind.i64.wrap (O + (C1.size : Int)) + 2) = O + (C1.size : Int) + 2 := by rw [IntKind.wrap_i64, IntKind.wrap_i64]; omega
        have k0 : decide (0 ≤ F) = true := decide_eq_true (by omega)
        have k1 : decide (F ≤ E) = true := decide_eq_true (by omega)
        have k2 : decide (E ≤ (d.size : Int)) = true := decide_eq_true (by omega)
        have k0' := eq_true (show 0 ≤ F by omega)
        have k1' := eq_true (show F ≤ E by omega)
        have k2' := eq_true (show E ≤ (d.size : Int) by omega)
        have hS : ∀ w', Rd w0 w' g d (O + (C1.size : Int) + 2) (ts ++ [⟨2, F, O + (C1.size : Int) + 2, partB d F E, decS C1⟩]) (false || decBad C1) → Step w0 w' g d ts P := by
          intro w' hr
          subst hP
          rw [Lib.size_eq] at hr
          cases hd : dec C1.data.toList with
          | none =>
            have : decBad C1 = true := by unfold decBad; rw [hd]; rfl
            rw [this] at hr
            exact ⟨_, _, hr⟩
          | some v =>
            have hb : decBad C1 = false := by unfold decBad; rw [hd]; rfl
            have hv : decS C1 = ⟨v.toArray⟩ := by unfold decS; rw [hd]; rfl
            rw [hb, hv] at hr
            exact hr
        have HS := Lib.hid hS
        clear hS hP
        rcases hqt with rfl | ⟨rfl, rfl⟩
        all_goals
          go_enter Try.func60, Try.ntmps60
          go_wp2
          go_region_held3 (fun W => W.cell? ⟨g, 0, none⟩ = some (.string d) ∧ W.cell? ⟨g, 1, none⟩ = some (.int .i64 a)) (first | exact ⟨by assumption, by assumption⟩ | go_keep) ((go_at_call 26; (with_reducible refine (hK0 _).mono ?_); rintro e w1 ⟨rfl, hb_⟩; have H1 := Lib.hid (show Rd w0 w1 g d a ts false from by first | exact H.out.below hb_ | exact (H.out.drewN _).below hb_ | exact (H.out.drew).below hb_); have hd0 := H1.out.c0; have hd1 := H1.out.c1; clear hb_))
          go_wp2_with (first | (go_at_call 59; (with_reducible refine (hN _).mono ?_); rintro e w2 ⟨rfl, hb_⟩; have H2 := Lib.hid (show Rd w0 w2 g d a ts false from by first | exact H1.out.below hb_ | exact (H1.out.drewN _).below hb_ | exact (H1.out.drew).below hb_); have he0 := H2.out.c0; have he1 := H2.out.c1; clear hb_) | (go_at_call 26; (with_reducible refine (hKE _).mono ?_); rintro e w3 ⟨rfl, hb_⟩; have H3 := Lib.hid (show Rd w0 w3 g d a ts false from by first | exact H2.out.below hb_ | exact (H2.out.drewN _).below hb_ | exact (H2.out.drew).below hb_); have hf0 := H3.out.c0; have hf1 := H3.out.c1; clear hb_) | (go_at_call 36; (with_reducible refine (stands_c _ (by first | exact H3.out | exact H3.out.drewN _) Q _ (by omega)).mono ?_); rintro e w' ⟨rfl, n_, rfl⟩) | (go_at_call 26; (with_reducible refine (hKO _).mono ?_); rintro e w4 ⟨rfl, hb_⟩; have H4 := Lib.hid (show Rd w0 w4 g d a ts false from by first | exact H3.out.below hb_ | exact (H3.out.drewN _).below hb_ | exact (H3.out.drew).below hb_); have hg0 := H4.out.c0; have hg1 := H4.out.c1; clear hb_) | (go_at_call 36; (with_reducible refine (stands_c _ (by first | exact H4.out | exact H4.out.drewN _) O _ (by omega)).mono ?_); rintro e w' ⟨rfl, n_, rfl⟩))
          go_region_held3 (fun W => W.cell? ⟨g, 0, none⟩ = some (.string d)) (first | assumption | exact Rd.c0 (w0 := w0) (g := g) (d := d) (a := a) (ts := ts) (x := false) (by first | exact H4.out | exact H4.out.drewN _ | exact H4.out.drew | exact (H4.out.drewN _).drew | exact (H4.out.drewN _).drew.drewN _ | exact H4.out.drew.drewN _ | exact (H4.out.drewN _).drewN _) | go_keep) ((go_at_call 58; refine (HCx.out _ ?_).mono ?_; exact (Rd.bel (g := g) (d := d) (a := a) (ts := ts) (x := false) (by first | exact H4.out | exact H4.out.drewN _ | exact H4.out.drew | exact (H4.out.drewN _).drew | exact (H4.out.drewN _).drew.drewN _ | exact H4.out.drew.drewN _ | exact (H4.out.drewN _).drewN _)); rintro e w' ⟨rfl, n8, rfl⟩))
          go_wp2_with (first | (go_at_call 70; (with_reducible refine (hCo _).mono ?_); rintro e w' ⟨rfl, rfl⟩))
          go_region_held3 (fun W => W.cell? ⟨g, 0, none⟩ = some (.string d)) (first | assumption | exact Rd.c0 (w0 := w0) (g := g) (d := d) (a := a) (ts := ts) (x := false) (by first | exact H4.out | exact H4.out.drewN _ | exact H4.out.drew | exact (H4.out.drewN _).drew | exact (H4.out.drewN _).drew.drewN _ | exact H4.out.drew.drewN _ | exact (H4.out.drewN _).drewN _) | go_keep) (first | (go_at_call 61; refine (decode_c (w0 := w0) (g := g) (d := d) (a := a) (ts := ts) (x := false) _ ?_ C1 (by omega)).mono ?_; (first | exact H4.out | exact H4.out.drewN _ | exact H4.out.drew | exact (H4.out.drewN _).drew | exact (H4.out.drewN _).drew.drewN _ | exact H4.out.drew.drewN _ | exact (H4.out.drewN _).drewN _); rintro e w' ⟨rfl, hr⟩; have hc8 := hr.c0) | (go_at_call 57; refine (tell_c (w0 := w0) (g := g) (d := d) (a := a) (ts := ts) (x := false || decBad C1) _ (by assumption) 2 F _ _ _ hl).mono ?_; rintro e w' ⟨rfl, ht⟩; have hc9 := ht.c0))
          all_goals
            go_wp2
            first | go_end0 | ((try simp only [Exit.inBlock, Exit.then]); refine bodyPost_ret (results_none rfl _ _ _) rfl ?_)
            exact ⟨rfl, HS.out _ ht⟩
end Go.Proofs.Ytlhhhlimjajnlaa.X
end
section
set_option linter.unusedVariables false
set_option linter.unusedSimpArgs false
namespace Go.Proofs.Ytlhhhlimjajnlaa.X
open Go.RowKit Go.Proofs.Ytlhhhlimjajnlaa Go.Proofs.Ytlhhhlimjajnlaa.Q Go.Proofs.Ytlhhhlimjajnlaa.P11 Go.Proofs.YtlhhhlimjajnlaaW.PrintWords Go.Proofs.YtlhhhlimjajnlaaW.PrintLast Go.Proofs.YtlhhhlimjajnlaaW.PrintMore
variable {w0 W : World} {g : Nat} {d : ByteArray} {a : Int} {ts : List Tok} {x : Bool}
def attrsF (d : ByteArray) : Nat → Int → List Tok → Option (List Tok × Int)
  | 0, _, _ => none
  | n + 1, a, acc =>
    if standsB d (skipP d.data.toList a) ⟨#[62]⟩ = true then some (acc ++ [⟨3, skipP d.data.toList a, skipP d.data.toList a + 1, ⟨#[]⟩, ⟨#[]⟩⟩], skipP d.data.toList a + 1)
    else if standsB d (skipP d.data.toList a) ⟨#[47, 62]⟩ = true then some (acc ++ [⟨4, skipP d.data.toList a, skipP d.data.toList a + 2, ⟨#[]⟩, ⟨#[]⟩⟩], skipP d.data.toList a + 2)
    else match attrP d a with
      | some (new, a') => attrsF d n a' (acc ++ new)
      | none => none
def tagP (d : ByteArray) (a : Int) : Option (List Tok × Int) :=
  let E := nameEndP d.data.toList (a + 1)
  if E = a + 1 then none else attrsF d (d.size + 1) E [⟨1, a, E, partB d (a + 1) E, ⟨#[]⟩⟩]
theorem stands_room2 (d : ByteArray) (i : Int) (s : ByteArray) (h0 : 0 ≤ i) (hs : 0 < s.size) (h : standsB d i s = true) : i + s.size ≤ (d.size : Int) := by
  unfold standsB Lib.hasPrefix at h
  obtain ⟨t, ht⟩ := List.isPrefixOf_iff_prefix.1 h
  have := congrArg List.length ht
  rw [List.length_append, List.length_drop] at this
  rw [Lib.size_eq d, Lib.size_eq s]
  rw [Lib.size_eq s] at hs
  omega
theorem attr_room (d : ByteArray) (a : Int) (h0 : 0 ≤ a) (h1 : a ≤ (d.size : Int)) (new : List Tok) (a' : Int) (h : attrP d a = some (new, a')) : a < a' ∧ a' ≤ (d.size : Int) ∧ new.length = 1 := by
  have hsz : d.data.toList.length = d.size := (Lib.size_eq d).symm
  unfold attrP at h
  obtain ⟨F, hF⟩ : ∃ F, skipP d.data.toList a = F := ⟨_, rfl⟩
  obtain ⟨E, hE⟩ : ∃ E, nameEndP d.data.toList F = E := ⟨_, rfl⟩
  obtain ⟨Q, hQ⟩ : ∃ Q, skipP d.data.toList E = Q := ⟨_, rfl⟩
  obtain ⟨O, hO⟩ : ∃ O, skipP d.data.toList (Q + 1) = O := ⟨_, rfl⟩
  simp only [hF, hE, hQ, hO] at h
  have hF1 := skipP_in d.data.toList a (by omega) (by omega)
  rw [hF] at hF1
  have hE1 := nameEndP_in d.data.toList F (by omega) (by omega)
  rw [hE] at hE1
  have hQ1 := skipP_in d.data.toList E (by omega) (by omega)
  rw [hQ] at hQ1
  by_cases c1 : F = a
  · rw [if_pos c1] at h; cases h
  rw [if_neg c1] at h
  by_cases c2 : E = F
  · rw [if_pos c2] at h; cases h
  rw [if_neg c2] at h
  by_cases c3 : standsB d Q ⟨#[61]⟩ = false
  · rw [if_pos c3] at h; cases h
  rw [if_neg c3] at h
  have hr1 := stands_room d Q 61 (by omega) (by simpa using c3)
  have hO1 := skipP_in d.data.toList (Q + 1) (by omega) (by omega)
  rw [hO] at hO1
  by_cases c4 : standsB d O ⟨#[34]⟩ = false ∧ standsB d O ⟨#[39]⟩ = false
  · rw [if_pos c4] at h; cases h
  rw [if_neg c4] at h
  have hr2 : O < (d.size : Int) := by
    by_cases c : standsB d O ⟨#[34]⟩ = true
    · exact stands_room d O 34 (by omega) c
    · by_cases c' : standsB d O ⟨#[39]⟩ = true
      · exact stands_room d O 39 (by omega) c'
      · exact absurd ⟨by simpa using c, by simpa using c'⟩ c4
  have hsep : (partB d O (O + 1)).data.toList.length = 1 := by
    unfold partB
    rw [Lib.extract_data, List.length_take, List.length_drop]; omega
  obtain ⟨s, hs⟩ : ∃ s, (partB d O (O + 1)).data.toList = s := ⟨_, rfl⟩
  rw [hs] at h hsep
  by_cases c5 : (Lib.cut (d.data.toList.drop (O + 1).toNat) s).2.2 = false
  · rw [if_pos c5] at h; cases h
  rw [if_neg c5] at h
  by_cases c6 : 0 ≤ Lib.indexByte (Lib.cut (d.data.toList.drop (O + 1).toNat) s).1 60
  · rw [if_pos c6] at h; cases h
  rw [if_neg c6] at h
  have hcl : ((Lib.cut (d.data.toList.drop (O + 1).toNat) s).1.length : Int) + 1 ≤ ((d.data.toList.drop (O + 1).toNat).length : Int) := by
    unfold Lib.cut at c5 ⊢
    by_cases ci : 0 ≤ Lib.index (d.data.toList.drop (O + 1).toNat) s
    · rw [if_pos ci]
      have := Lib.index_room _ _ ci
      rw [List.length_take]; omega
    · rw [if_neg ci] at c5; exact absurd rfl c5
  rw [List.length_drop] at hcl
  cases hd : dec (Lib.cut (d.data.toList.drop (O + 1).toNat) s).1 with
  | none => rw [hd] at h; cases h
  | some v =>
    rw [hd] at h
    injection h with h
    injection h with h2 h3
    subst h3 h2
    refine ⟨by omega, by omega, rfl⟩
def ahead (d : ByteArray) (g : Nat) (w : World) : Nat := match w.cell? ⟨g, 1, none⟩, w.cell? ⟨g, 3, none⟩ with
  | some (.int _ a), some (.bool x) => if x then 0 else ((d.size : Int) - a).toNat + 1
  | _, _ => 0
theorem Rd.ahead_ (h : Rd w0 W g d a ts x) : ahead d g W = if x then 0 else ((d.size : Int) - a).toNat + 1 := by
  unfold ahead
  rw [h.c1, h.c3]
def TagRel (d : ByteArray) (P : Option (List Tok × Int)) (a : Int) (acc : List Tok) : Prop :=
  0 ≤ a ∧ a ≤ (d.size : Int) ∧ (acc.length : Int) ≤ a ∧ ∃ n : Nat, (d.size : Int) - a < n ∧ P = attrsF d n a acc
set_option maxHeartbeats 16000000 in
set_option maxRecDepth 100000 in
theorem tag_c (w : World) (h : Rd w0 w g d a ts false) (hG : G w0) (hl : ts.length ≤ 100000) (hs : d.size ≤ 800000) (h0 : 0 ≤ a) (h4 : a + 1 ≤ (d.size : Int)) :
    Calls Try.prog 40 #[.pointer (some ⟨g, 0, none⟩)] w fun e w' => e = .returned (.tuple #[]) ∧ Step w0 w' g d ts (tagP d a) := by
  have H := Lib.hid h
  have hsz : d.data.toList.length = d.size := (Lib.size_eq d).symm
  obtain ⟨E, hE⟩ : ∃ E, nameEndP d.data.toList (a + 1) = E := ⟨_, rfl⟩
  have hE1 := nameEndP_in d.data.toList (a + 1) (by omega) (by omega)
  rw [hE] at hE1
  have hN : ∀ W, Calls Try.prog 59 #[.string d, .int .i64 (a + 1)] W fun e w' => e = .returned (.int .i64 E) ∧ Below W.heap.size W w' := fun W => chars_NameEnd.calls d (a + 1) E W (by unfold chars_NameEnd.f; rw [if_pos (by omega), hE])
  obtain ⟨P, hP⟩ : ∃ P, tagP d a = P := ⟨_, rfl⟩
  rw [hP]
  unfold tagP at hP
  simp only [hE] at hP
  have hc0 := h.c0
  have hc1 := h.c1
  have hx0 := h.drew.c0
  have hx1 := h.drew.c1
  have hw : IntKind.i64.wrap (a + 1) = a + 1 := by rw [IntKind.wrap_i64]; omega
  have hla : ts.length ≤ 1000000 := by omega
  clear h
  by_cases c1 : E = a + 1
  · rw [if_pos c1] at hP
    subst hP
    have b1 : (E == a + 1) = true := by rw [c1]; exact beq_self_eq_true _
    have b2 := eq_true c1
    clear c1
    go_enter Try.func40, Try.ntmps40
    go_step3
    go_wp2
    go_region_held3 (fun W => W.cell? ⟨g, 0, none⟩ = some (.string d) ∧ W.cell? ⟨g, 1, none⟩ = some (.int .i64 a)) (first | exact ⟨by assumption, by assumption⟩ | go_keep) ((go_at_call 59; (with_reducible refine (hN _).mono ?_); rintro e w1 ⟨rfl, hb_⟩; have H1 := Lib.hid (show Rd w0 w1 g d a ts false from by first | exact H.out.below hb_ | exact (H.out.drewN _).below hb_ | exact (H.out.drew).below hb_); have hd0 := H1.out.c0; have hd1 := H1.out.c1; have hd3 := H1.out.c3; clear hb_))
    go_wp2_with ((go_at_call 56; (with_reducible refine (fails_c _ (by first | exact H1.out | exact H1.out.drewN _)).mono ?_); rintro e w' ⟨rfl, hf_⟩))
    (try rw [Exit.noGoto_ret])
    first | go_end0 | go_ret | ((try simp only [Exit.inBlock, Exit.then]); refine bodyPost_ret (results_none rfl _ _ _) rfl ?_)
    exact ⟨rfl, _, _, hf_⟩
  rw [if_neg c1] at hP
  have b1 : (E == a + 1) = false := beq_eq_false_iff_ne.2 c1
  have b2 := eq_false c1
  clear c1
  have g0 : decide (0 ≤ a + 1) = true := decide_eq_true (by omega)
  have g1 : decide (a + 1 ≤ E) = true := decide_eq_true (by omega)
  have g2 : decide (E ≤ (d.size : Int)) = true := decide_eq_true (by omega)
  have g0' := eq_true (show 0 ≤ a + 1 by omega)
  have g1' := eq_true (show a + 1 ≤ E by omega)
  have g2' := eq_true (show E ≤ (d.size : Int) by omega)
  have hT : TagRel d P E [⟨1, a, E, partB d (a + 1) E, ⟨#[]⟩⟩] := ⟨by omega, by omega, by simp; omega, ⟨d.size + 1, by omega, hP.symm⟩⟩
  have HT := Lib.hid hT
  clear hT hP
  go_enter Try.func40, Try.ntmps40
  go_step3
  go_wp2
  go_region_held3 (fun W => W.cell? ⟨g, 0, none⟩ = some (.string d) ∧ W.cell? ⟨g, 1, none⟩ = some (.int .i64 a)) (first | exact ⟨by assumption, by assumption⟩ | go_keep) ((go_at_call 59; (with_reducible refine (hN _).mono ?_); rintro e w1 ⟨rfl, hb_⟩; have H1 := Lib.hid (show Rd w0 w1 g d a ts false from by first | exact H.out.below hb_ | exact (H.out.drewN _).below hb_ | exact (H.out.drew).below hb_); have hd0 := H1.out.c0; have hd1 := H1.out.c1; have hd3 := H1.out.c3; clear hb_))
  go_wp2
  have hy0 := H1.out.drew.c0
  have hy1 := H1.out.drew.c1
  go_region_with (go_at_call 57; refine (tell_c (w0 := w0) (g := g) (d := d) (a := a) (ts := ts) (x := false) _ (by first | exact H1.out.drewN _ | exact H1.out.drew | exact (H1.out.drewN _).drew | exact H1.out) 1 a _ _ _ hla).mono ?_; rintro e w' ⟨rfl, hr⟩; have hc9 := hr.c0)
  all_goals
    go_wp2
    (try go_step3)
    go_wp2
    have H2 := Lib.hid hr
    clear hr
    go_loopw [3] (fun t wr => (Hid (P = none) ∧ ∃ p ts', Hid (Rd w0 wr g d p ts' true)) ∨ (∃ p acc, Hid (TagRel d P p acc) ∧ Hid (Rd w0 wr g d p (ts ++ acc) false))) (fun t wr => ahead d g wr)
    case atStart => exact .inr ⟨_, _, HT, H2⟩
    case round =>
      clear H2 HT
      rcases hrel with ⟨hPn, p, ts', HR⟩ | ⟨p, acc, hRel, HR⟩
      · have hc3 := HR.out.c3
        go_wp2
        first | go_end0 | go_ret | (simp only [Exit.noGoto]; go_end0) | (simp only [Exit.noGoto]; refine bodyPost_ret (results_none rfl _ _ _) rfl ?_) | ((try rw [Exit.noGoto_ret]); (try simp only [Exit.inBlock, Exit.then]); refine bodyPost_ret (results_none rfl _ _ _) rfl ?_)
        exact ⟨rfl, by rw [hPn.out]; exact ⟨_, _, HR.out⟩⟩
      · have hmeas := Lib.hid HR.out.ahead_
        obtain ⟨r1, r2, r3, n, hn, hPn⟩ := hRel.out
        have hc3 := HR.out.c3
        have hz3 := HR.out.drew.c3
        have hz0 := HR.out.drew.c0
        have hz1 := HR.out.drew.c1
        have hv0 := HR.out.c0
        have hv1 := HR.out.c1
        obtain ⟨I, hI⟩ : ∃ I, skipP d.data.toList p = I := ⟨_, rfl⟩
        have hI1 := skipP_in d.data.toList p r1 (by omega)
        rw [hI] at hI1
        have hK : ∀ W, Calls Try.prog 26 #[.string d, .int .i64 p] W fun e w' => e = .returned (.int .i64 I) ∧ Below W.heap.size W w' := fun W => chars_Skip.calls d p I W (by unfold chars_Skip.f; rw [if_pos (by omega), hI])
        cases n with
        | zero => omega
        | succ n =>
        unfold attrsF at hPn
        rw [hI] at hPn
        have hw5 : IntKind.i64.wrap (I + 1) = I + 1 := by rw [IntKind.wrap_i64]; omega
        have hw6 : IntKind.i64.wrap (I + 2) = I + 2 := by rw [IntKind.wrap_i64]; omega
        obtain ⟨s1, hS1⟩ : ∃ s, standsB d I ⟨#[62]⟩ = s := ⟨_, rfl⟩
        obtain ⟨s2, hS2⟩ : ∃ s, standsB d I ⟨#[47, 62]⟩ = s := ⟨_, rfl⟩
        rw [hS1, hS2] at hPn
        cases s1 with
        | true =>
          rw [if_pos rfl] at hPn
          subst hPn
          go_wp2
          go_region_held3 (fun W => W.cell? ⟨g, 0, none⟩ = some (.string d) ∧ W.cell? ⟨g, 1, none⟩ = some (.int .i64 p)) (first | exact ⟨by assumption, by assumption⟩ | go_keep) ((go_at_call 26; (with_reducible refine (hK _).mono ?_); rintro e w1 ⟨rfl, hb_⟩; have H3 := Lib.hid (show Rd w0 w1 g d p (ts ++ acc) false from by first | exact HR.out.below hb_ | exact (HR.out.drewN _).below hb_ | exact (HR.out.drew).below hb_); have he0 := H3.out.c0; have he1 := H3.out.c1; have he3 := H3.out.c3; clear hb_))
          go_wp2_with (first | (go_at_call 36; (with_reducible refine (stands_c _ (by first | exact H3.out | exact H3.out.drewN _ | exact (H3.out.drewN _).drewN _) I _ (by omega)).mono ?_); rintro e w' ⟨rfl, n_, rfl⟩) | (go_at_call 57; (with_reducible refine (tell_c (w0 := w0) (g := g) (d := d) (a := p) (ts := ts ++ acc) (x := false) _ (by first | exact H3.out | exact H3.out.drewN _ | exact (H3.out.drewN _).drewN _) 3 I _ _ _ (by rw [List.length_append]; omega)).mono ?_); rintro e w' ⟨rfl, ht⟩))
          first | go_end0 | go_ret | (simp only [Exit.noGoto]; go_end0) | (simp only [Exit.noGoto]; refine bodyPost_ret (results_none rfl _ _ _) rfl ?_) | ((try rw [Exit.noGoto_ret]); (try simp only [Exit.inBlock, Exit.then]); refine bodyPost_ret (results_none rfl _ _ _) rfl ?_)
          exact ⟨rfl, by rw [List.append_assoc] at ht; exact ht⟩
        | false =>
          rw [if_neg (by decide)] at hPn
          cases s2 with
          | true =>
            rw [if_pos rfl] at hPn
            subst hPn
            go_wp2
            go_region_held3 (fun W => W.cell? ⟨g, 0, none⟩ = some (.string d) ∧ W.cell? ⟨g, 1, none⟩ = some (.int .i64 p)) (first | exact ⟨by assumption, by assumption⟩ | go_keep) ((go_at_call 26; (with_reducible refine (hK _).mono ?_); rintro e w1 ⟨rfl, hb_⟩; have H3 := Lib.hid (show Rd w0 w1 g d p (ts ++ acc) false from by first | exact HR.out.below hb_ | exact (HR.out.drewN _).below hb_ | exact (HR.out.drew).below hb_); have he0 := H3.out.c0; have he1 := H3.out.c1; have he3 := H3.out.c3; clear hb_))
            go_wp2_with (first | (go_at_call 36; (with_reducible refine (stands_c _ (by first | exact H3.out | exact H3.out.drewN _ | exact (H3.out.drewN _).drewN _) I _ (by omega)).mono ?_); rintro e w' ⟨rfl, n_, rfl⟩) | (go_at_call 57; (with_reducible refine (tell_c (w0 := w0) (g := g) (d := d) (a := p) (ts := ts ++ acc) (x := false) _ (by first | exact H3.out | exact H3.out.drewN _ | exact (H3.out.drewN _).drewN _) 4 I _ _ _ (by rw [List.length_append]; omega)).mono ?_); rintro e w' ⟨rfl, ht⟩))
            first | go_end0 | go_ret | (simp only [Exit.noGoto]; go_end0) | (simp only [Exit.noGoto]; refine bodyPost_ret (results_none rfl _ _ _) rfl ?_) | ((try rw [Exit.noGoto_ret]); (try simp only [Exit.inBlock, Exit.then]); refine bodyPost_ret (results_none rfl _ _ _) rfl ?_)
            exact ⟨rfl, by rw [List.append_assoc] at ht; exact ht⟩
          | false =>
            rw [if_neg (by decide)] at hPn
            cases hA : attrP d p with
            | none =>
              rw [hA] at hPn
              subst hPn
              go_wp2
              go_region_held3 (fun W => W.cell? ⟨g, 0, none⟩ = some (.string d) ∧ W.cell? ⟨g, 1, none⟩ = some (.int .i64 p)) (first | exact ⟨by assumption, by assumption⟩ | go_keep) ((go_at_call 26; (with_reducible refine (hK _).mono ?_); rintro e w1 ⟨rfl, hb_⟩; have H3 := Lib.hid (show Rd w0 w1 g d p (ts ++ acc) false from by first | exact HR.out.below hb_ | exact (HR.out.drewN _).below hb_ | exact (HR.out.drew).below hb_); have he0 := H3.out.c0; have he1 := H3.out.c1; have he3 := H3.out.c3; clear hb_))
              go_wp2_with (first | (go_at_call 36; (with_reducible refine (stands_c _ (by first | exact H3.out | exact H3.out.drewN _ | exact (H3.out.drewN _).drewN _) I _ (by omega)).mono ?_); rintro e w' ⟨rfl, n_, rfl⟩) | (go_at_call 60; (with_reducible refine (attr_c (w0 := w0) (g := g) (d := d) (a := p) (ts := ts ++ acc) _ (by first | exact H3.out | exact H3.out.drewN _ | exact (H3.out.drewN _).drewN _) hG (by rw [List.length_append]; omega) (by omega) (by omega) (by omega)).mono ?_); rintro e w4 ⟨rfl, ht⟩))
              rw [hA] at ht
              obtain ⟨a', ts', ht⟩ := ht
              have HA := Lib.hid ht
              clear ht
              go_wp2
              go_roundw
              case rel => exact .inl ⟨Lib.hid (by first | trivial | rfl), _, _, HA⟩
              case measure => rw [hmeas.out, HA.out.ahead_]; simp only [Bool.false_eq_true, if_false, if_true]; omega
            | some v =>
              obtain ⟨new, a'⟩ := v
              rw [hA] at hPn
              have hroom := attr_room d p r1 r2 new a' hA
              go_wp2
              go_region_held3 (fun W => W.cell? ⟨g, 0, none⟩ = some (.string d) ∧ W.cell? ⟨g, 1, none⟩ = some (.int .i64 p)) (first | exact ⟨by assumption, by assumption⟩ | go_keep) ((go_at_call 26; (with_reducible refine (hK _).mono ?_); rintro e w1 ⟨rfl, hb_⟩; have H3 := Lib.hid (show Rd w0 w1 g d p (ts ++ acc) false from by first | exact HR.out.below hb_ | exact (HR.out.drewN _).below hb_ | exact (HR.out.drew).below hb_); have he0 := H3.out.c0; have he1 := H3.out.c1; have he3 := H3.out.c3; clear hb_))
              go_wp2_with (first | (go_at_call 36; (with_reducible refine (stands_c _ (by first | exact H3.out | exact H3.out.drewN _ | exact (H3.out.drewN _).drewN _) I _ (by omega)).mono ?_); rintro e w' ⟨rfl, n_, rfl⟩) | (go_at_call 60; (with_reducible refine (attr_c (w0 := w0) (g := g) (d := d) (a := p) (ts := ts ++ acc) _ (by first | exact H3.out | exact H3.out.drewN _ | exact (H3.out.drewN _).drewN _) hG (by rw [List.length_append]; omega) (by omega) (by omega) (by omega)).mono ?_); rintro e w4 ⟨rfl, ht⟩))
              rw [hA] at ht
              have HA := Lib.hid (show Rd w0 w4 g d a' (ts ++ (acc ++ new)) false by rw [← List.append_assoc]; exact ht)
              clear ht
              go_wp2
              go_roundw
              case rel => exact .inr ⟨_, _, Lib.hid ⟨by omega, hroom.2.1, by rw [List.length_append]; omega, ⟨n, by omega, hPn⟩⟩, HA⟩
              case measure => rw [hmeas.out, HA.out.ahead_]; simp only [Bool.false_eq_true, if_false, if_true]; omega
end Go.Proofs.Ytlhhhlimjajnlaa.X
end
section
set_option linter.unusedVariables false
set_option linter.unusedSimpArgs false
namespace Go.Proofs.Ytlhhhlimjajnlaa.X
open Go.RowKit Go.Proofs.Ytlhhhlimjajnlaa Go.Proofs.Ytlhhhlimjajnlaa.Q Go.Proofs.Ytlhhhlimjajnlaa.P11 Go.Proofs.YtlhhhlimjajnlaaW.PrintWords Go.Proofs.YtlhhhlimjajnlaaW.PrintLast Go.Proofs.YtlhhhlimjajnlaaW.PrintMore
def stepP (d : ByteArray) (a : Int) : Option (List Tok × Int) :=
  if standsB d a ⟨#[60, 33, 45, 45]⟩ = true then commentP d.data.toList a
  else if standsB d a ⟨#[60, 33, 91, 67, 68, 65, 84, 65, 91]⟩ = true then plainP d.data.toList a
  else if standsB d a ⟨#[60, 47]⟩ = true then closingP d a
  else if standsB d a ⟨#[60]⟩ = true then tagP d a
  else textP d.data.toList a
def lexF (d : ByteArray) : Nat → Int → List Tok → Option (List Tok)
  | 0, _, _ => none
  | n + 1, a, acc => if a < (d.size : Int) then (match stepP d a with
      | some (new, a') => lexF d n a' (acc ++ new)
      | none => none) else some acc
def lexO (d : ByteArray) : Option (List Tok) := lexF d (d.size + 1) 0 []
def lexV (d : ByteArray) : List Tok × Int :=
  if (65536 : Int) < (d.size : Int) then ([], 18)
  else if validL d.data.toList = false then ([], 15)
  else match lexO d with
    | some l => (l, 0)
    | none => ([], 15)
theorem standsB_take (d : ByteArray) (a : Int) (s : ByteArray) (h : standsB d a s = true) : ∃ t, d.data.toList.drop a.toNat = s.data.toList ++ t := by
  unfold standsB Lib.hasPrefix at h
  obtain ⟨t, ht⟩ := List.isPrefixOf_iff_prefix.1 h
  exact ⟨t, ht.symm⟩
theorem attrsF_room (d : ByteArray) (b : Int) : ∀ (n : Nat) (a : Int) (acc r : List Tok) (a' : Int), 0 ≤ b → b < a → a ≤ (d.size : Int) → (acc.length : Int) ≤ a - b → attrsF d n a acc = some (r, a') → b < a' ∧ a' ≤ (d.size : Int) ∧ (r.length : Int) ≤ a' - b := by
  intro n
  induction n with
  | zero => intro a acc r a' _ _ _ _ h; cases h
  | succ n ih =>
    intro a acc r a' hb h0 h1 hl h
    have hsz : d.data.toList.length = d.size := (Lib.size_eq d).symm
    unfold attrsF at h
    obtain ⟨I, hI⟩ : ∃ I, skipP d.data.toList a = I := ⟨_, rfl⟩
    have hI1 := skipP_in d.data.toList a (by omega) (by omega)
    rw [hI] at hI1
    rw [hI] at h
    by_cases c1 : standsB d I ⟨#[62]⟩ = true
    · rw [if_pos c1] at h
      have := stands_room2 d I ⟨#[62]⟩ (by omega) (by decide) c1
      rw [show ((⟨#[62]⟩ : ByteArray).size : Int) = 1 from rfl] at this
      injection h with h; injection h with h2 h3
      subst h3 h2
      rw [List.length_append, List.length_singleton]
      omega
    rw [if_neg c1] at h
    by_cases c2 : standsB d I ⟨#[47, 62]⟩ = true
    · rw [if_pos c2] at h
      have := stands_room2 d I ⟨#[47, 62]⟩ (by omega) (by decide) c2
      rw [show ((⟨#[47, 62]⟩ : ByteArray).size : Int) = 2 from rfl] at this
      injection h with h; injection h with h2 h3
      subst h3 h2
      rw [List.length_append, List.length_singleton]
      omega
    rw [if_neg c2] at h
    cases hA : attrP d a with
    | none => rw [hA] at h; cases h
    | some v =>
      obtain ⟨new, p⟩ := v
      rw [hA] at h
      have hr := attr_room d a (by omega) h1 new p hA
      exact ih p (acc ++ new) r a' hb (by omega) hr.2.1 (by rw [List.length_append]; omega) h
theorem hasPrefix_room (l s : List UInt8) (h : Lib.hasPrefix l s = true) : s.length ≤ l.length := by
  unfold Lib.hasPrefix at h
  obtain ⟨t, ht⟩ := List.isPrefixOf_iff_prefix.1 h
  have := congrArg List.length ht
  rw [List.length_append] at this; omega
theorem step_room (d : ByteArray) (a : Int) (h0 : 0 ≤ a) (h1 : a < (d.size : Int)) (new : List Tok) (a' : Int) (h : stepP d a = some (new, a')) : a < a' ∧ a' ≤ (d.size : Int) ∧ (new.length : Int) ≤ a' - a := by
  have hsz : d.data.toList.length = d.size := (Lib.size_eq d).symm
  unfold stepP at h
  by_cases c1 : standsB d a ⟨#[60, 33, 45, 45]⟩ = true
  · rw [if_pos c1] at h
    unfold commentP at h
    obtain ⟨i, hi⟩ : ∃ i, Lib.index (d.data.toList.drop (a.toNat + 4)) [45, 45] = i := ⟨_, rfl⟩
    simp only [hi] at h
    by_cases c : i < 0
    · rw [if_pos c] at h; cases h
    rw [if_neg c] at h
    by_cases c' : Lib.hasPrefix ((d.data.toList.drop (a.toNat + 4)).drop i.toNat) [45, 45, 62] = true
    · rw [if_pos c'] at h
      have := hasPrefix_room _ _ c'
      rw [List.length_drop, List.length_drop] at this
      simp only [List.length_cons, List.length_nil] at this
      injection h with h; injection h with h2 h3
      subst h3 h2
      refine ⟨by omega, by omega, by simp; omega⟩
    · rw [if_neg c'] at h; cases h
  rw [if_neg c1] at h
  by_cases c2 : standsB d a ⟨#[60, 33, 91, 67, 68, 65, 84, 65, 91]⟩ = true
  · rw [if_pos c2] at h
    unfold plainP at h
    by_cases c : (Lib.cut (d.data.toList.drop (a.toNat + 9)) [93, 93, 62]).2.2 = true
    · simp only [c, if_true] at h
      have hcl : ((Lib.cut (d.data.toList.drop (a.toNat + 9)) [93, 93, 62]).1.length : Int) + 3 ≤ ((d.data.toList.drop (a.toNat + 9)).length : Int) := by
        unfold Lib.cut at c ⊢
        by_cases ci : 0 ≤ Lib.index (d.data.toList.drop (a.toNat + 9)) [93, 93, 62]
        · rw [if_pos ci]
          have := Lib.index_room _ _ ci
          simp only [List.length_cons, List.length_nil] at this
          rw [List.length_take]; omega
        · rw [if_neg ci] at c; cases c
      rw [List.length_drop] at hcl
      injection h with h; injection h with h2 h3
      subst h3 h2
      refine ⟨by omega, by omega, by simp; omega⟩
    · simp only [c] at h; cases h
  rw [if_neg c2] at h
  by_cases c3 : standsB d a ⟨#[60, 47]⟩ = true
  · rw [if_pos c3] at h
    have hr := stands_room2 d a ⟨#[60, 47]⟩ h0 (by decide) c3
    rw [show ((⟨#[60, 47]⟩ : ByteArray).size : Int) = 2 from rfl] at hr
    unfold closingP at h
    obtain ⟨E, hE⟩ : ∃ E, nameEndP d.data.toList (a + 2) = E := ⟨_, rfl⟩
    obtain ⟨T, hT⟩ : ∃ T, skipP d.data.toList E = T := ⟨_, rfl⟩
    have hE1 := nameEndP_in d.data.toList (a + 2) (by omega) (by omega)
    rw [hE] at hE1
    have hT1 := skipP_in d.data.toList E (by omega) (by omega)
    rw [hT] at hT1
    simp only [hE, hT] at h
    by_cases c : E = a + 2
    · rw [if_pos c] at h; cases h
    rw [if_neg c] at h
    by_cases c' : standsB d T ⟨#[62]⟩ = true
    · rw [if_pos c'] at h
      have := stands_room d T 62 (by omega) c'
      injection h with h; injection h with h2 h3
      subst h3 h2
      refine ⟨by omega, by omega, by simp; omega⟩
    · rw [if_neg c'] at h; cases h
  rw [if_neg c3] at h
  by_cases c4 : standsB d a ⟨#[60]⟩ = true
  · rw [if_pos c4] at h
    unfold tagP at h
    obtain ⟨E, hE⟩ : ∃ E, nameEndP d.data.toList (a + 1) = E := ⟨_, rfl⟩
    have hE1 := nameEndP_in d.data.toList (a + 1) (by omega) (by omega)
    rw [hE] at hE1
    simp only [hE] at h
    by_cases c : E = a + 1
    · rw [if_pos c] at h; cases h
    rw [if_neg c] at h
    exact attrsF_room d a _ _ _ _ _ h0 (by omega) (by omega) (by simp; omega) h
  rw [if_neg c4] at h
  unfold textP at h
  obtain ⟨b, hb⟩ : ∃ b, (Lib.cut (d.data.toList.drop a.toNat) [60]).1 = b := ⟨_, rfl⟩
  simp only [hb] at h
  have hble : b.length ≤ (d.data.toList.drop a.toNat).length := by rw [← hb]; exact cut_le _ _
  rw [List.length_drop] at hble
  have hb1 : 1 ≤ b.length := by
    have hlt : a.toNat < d.data.toList.length := by omega
    have hcons := List.drop_eq_getElem_cons hlt
    have hne : ¬ d.data.toList[a.toNat] = 60 := by
      intro e
      apply c4
      unfold standsB Lib.hasPrefix
      rw [hcons, e]
      simp [List.isPrefixOf]
    rw [← hb]
    unfold Lib.cut
    rw [Lib.index_one]
    by_cases ci : 0 ≤ Lib.indexByte (d.data.toList.drop a.toNat) 60
    · rw [if_pos ci]
      obtain ⟨t, ht⟩ := ((indexByte_split (d.data.toList.drop a.toNat) 60).2 ci).2
      by_cases c0 : (Lib.indexByte (d.data.toList.drop a.toNat) 60).toNat = 0
      · rw [c0, List.drop_zero, hcons] at ht
        injection ht with ht _
        exact absurd ht hne
      · have := congrArg List.length ht
        rw [List.length_drop, List.length_cons, List.length_drop] at this
        show 1 ≤ ((d.data.toList.drop a.toNat).take _).length
        rw [List.length_take, List.length_drop]; omega
    · rw [if_neg ci]
      show 1 ≤ (d.data.toList.drop a.toNat).length
      rw [List.length_drop]; omega
  cases hd : dec b with
  | none => rw [hd] at h; cases h
  | some v =>
    rw [hd] at h
    injection h with h; injection h with h2 h3
    subst h3 h2
    refine ⟨by omega, by omega, by simp; omega⟩
end Go.Proofs.Ytlhhhlimjajnlaa.X
end
section
set_option linter.unusedVariables false
set_option linter.unusedSimpArgs false
namespace Go.Proofs.Ytlhhhlimjajnlaa.X
open Go.RowKit Go.Proofs.Ytlhhhlimjajnlaa Go.Proofs.Ytlhhhlimjajnlaa.Q Go.Proofs.YtlhhhlimjajnlaaW.PrintWords Go.Proofs.YtlhhhlimjajnlaaW.PrintLast Go.Proofs.YtlhhhlimjajnlaaW.PrintMore
attribute [local go_sem] max2_int min2_int max_two min_two   
set_option maxHeartbeats 8000000 in
set_option maxRecDepth 100000 in
theorem flush_c {w0 w : World} {g : Nat} {v1 v2 v3 : Value} {p : PS} (h : Bd w0 w g v1 v2 v3 p) (hl : p.n.length ≤ 1000000) (hl2 : p.s.length ≤ 1000000) (hl3 : p.o.length ≤ 1000000) (hx : p.x.size ≤ 4294967296) :
    Calls Try.prog 18 #[.pointer (some ⟨g, 0, none⟩)] w fun e w' => e = .returned (.tuple #[]) ∧ ∃ v1' v2', Bd w0 w' g v1' v2' v3 (flushP p) := by
  have hc3 := h.c3
  have hf3 := h.f 3
  have hS : Bd w0 (w.setCell ⟨g, 3, none⟩ (.string ⟨#[]⟩)) g v1 v2 v3 { p with x := ⟨#[]⟩ } := h.set { p with x := ⟨#[]⟩ } rfl rfl rfl 3 (.string ⟨#[]⟩) rfl
  have HS := Lib.hid hS
  have HL := Lib.hid hl
  have HL2 := Lib.hid hl2
  have HL3 := Lib.hid hl3
  by_cases c : p.x.data.toList = []
  · have b1 : (p.x.toList == ([] : List UInt8)) = true := by rw [Lib.toList_data, c]; rfl
    have hF : flushP p = { p with x := ⟨#[]⟩ } := by unfold flushP; rw [if_pos c]
    rw [hF]
    have c' : p.x.toList = [] := by rw [Lib.toList_data, c]
    clear hS hl hl2 hl3
    go_enter Try.func18, Try.ntmps18
    go_wp2
    first | go_end0 | go_ret | ((try simp only [Exit.inBlock, Exit.then]); refine bodyPost_ret (results_none rfl _ _ _) rfl ?_)
    exact ⟨rfl, _, _, HS.out⟩
  · have b1 : (p.x.toList == ([] : List UInt8)) = false := by rw [Lib.toList_data, beq_eq_false_iff_ne]; exact c
    have c' : ¬ p.x.toList = [] := by rw [Lib.toList_data]; exact c
    by_cases t : topP p.o < 0
    · have b2 := eq_true t
      obtain ⟨K, hK⟩ : ∃ K, skipP p.x.data.toList 0 = K := ⟨_, rfl⟩
      have hSk : ∀ W, Calls Try.prog 26 #[.string p.x, .int .i64 0] W fun e w' => e = .returned (.int .i64 K) ∧ Below W.heap.size W w' := fun W => chars_Skip.calls p.x 0 K W (by unfold chars_Skip.f; rw [if_pos hx, hK])
      have hF : flushP p = { p with x := ⟨#[]⟩, wr := p.wr || decide (K < (p.x.size : Int)) } := by unfold flushP; rw [if_neg c, if_pos t, hK]
      rw [hF]
      cases hw : p.wr with
      | true =>
        have hc5 : w.cell? ⟨g, 5, none⟩ = some (.bool true) := by rw [h.c5, hw]
        have hf5 := h.f 5
        have hE : ∀ n, Bd w0 (((w.setCell ⟨g, 3, none⟩ (.string ⟨#[]⟩)).drewN n).setCell ⟨g, 5, none⟩ (.bool true)) g v1 v2 v3 { p with x := ⟨#[]⟩, wr := true } := fun n => (hS.drewN n).set { p with x := ⟨#[]⟩, wr := true } rfl rfl rfl 5 (.bool true) (by rw [hw]; rfl)
        have HE := Lib.hid hE
        rw [Bool.true_or]
        clear hS hE hl hl2 hl3 hw
        go_enter Try.func18, Try.ntmps18
        go_wp2_with (go_at_call 17; refine (top_c (w0 := w0) (g := g) (v1 := v1) (v2 := v2) (v3 := v3) (p := { p with x := ⟨#[]⟩ }) (by first | exact HS.out | exact HS.out.drew | exact HS.out.drewN _) HL3.out).mono ?_; rintro e w' ⟨rfl, n, rfl⟩)
        first | go_end0 | go_ret | ((try simp only [Exit.inBlock, Exit.then]); refine bodyPost_ret (results_none rfl _ _ _) rfl ?_)
        exact ⟨rfl, _, _, HE.out _⟩
      | false =>
        have hc5 : w.cell? ⟨g, 5, none⟩ = some (.bool false) := by rw [h.c5, hw]
        have hf5 := h.f 5
        rw [Bool.false_or]
        have HW := Lib.hid hw
        clear hS hl hl2 hl3 hw
        go_enter Try.func18, Try.ntmps18
        go_wp2_with (first | (go_at_call 17; refine (top_c (w0 := w0) (g := g) (v1 := v1) (v2 := v2) (v3 := v3) (p := { p with x := ⟨#[]⟩ }) (by first | exact HS.out | exact HS.out.drew | exact HS.out.drewN _) HL3.out).mono ?_; rintro e w' ⟨rfl, n, rfl⟩) | (go_at_call 26; refine (hSk _).mono ?_; rintro e w1 ⟨rfl, hb⟩; have H1 := Lib.hid (show Bd w0 w1 g v1 v2 v3 { p with x := ⟨#[]⟩ } from by first | exact HS.out.below hb | exact (HS.out.drewN _).below hb | exact (HS.out.drew).below hb); have hd5 := H1.out.c5; have he5 := H1.out.f 5; clear hb))
        first | go_end0 | go_ret | ((try simp only [Exit.inBlock, Exit.then]); refine bodyPost_ret (results_none rfl _ _ _) rfl ?_)
        exact ⟨rfl, _, _, H1.out.set { p with x := ⟨#[]⟩, wr := decide (K < (p.x.size : Int)) } rfl rfl rfl 5 (.bool (decide (K < (p.x.size : Int)))) (by rfl)⟩
    · have b2 := eq_false t
      have hF : flushP p = putP { p with x := ⟨#[]⟩ } 3 (-1) p.x ⟨#[]⟩ := by unfold flushP; rw [if_neg c, if_neg t]
      rw [hF]
      clear hS hl hl2 hl3
      go_enter Try.func18, Try.ntmps18
      go_wp2_with (first | (go_at_call 17; refine (top_c (w0 := w0) (g := g) (v1 := v1) (v2 := v2) (v3 := v3) (p := { p with x := ⟨#[]⟩ }) (by first | exact HS.out | exact HS.out.drew | exact HS.out.drewN _) HL3.out).mono ?_; rintro e w' ⟨rfl, n, rfl⟩) | (go_at_call 24; refine (put_c (w0 := w0) (g := g) (v1 := v1) (v2 := v2) (v3 := v3) (p := { p with x := ⟨#[]⟩ }) (by first | exact HS.out | exact HS.out.drew | exact HS.out.drewN _) HL.out HL2.out HL3.out 3 (-1) 0 p.x ⟨#[]⟩).mono ?_; rintro e w' ⟨rfl, u1, u2, hu⟩))
      first | go_end0 | go_ret | ((try simp only [Exit.inBlock, Exit.then]); refine bodyPost_ret (results_none rfl _ _ _) rfl ?_)
      exact ⟨rfl, u1, u2, hu⟩
theorem flush_lens (p : PS) : (flushP p).n.length ≤ p.n.length + 1 ∧ (flushP p).s.length ≤ p.s.length + 1 ∧ (flushP p).o = p.o ∧ (flushP p).x = ⟨#[]⟩ := by
  unfold flushP
  split
  · exact ⟨Nat.le_succ _, Nat.le_succ _, rfl, rfl⟩
  · split
    · exact ⟨Nat.le_succ _, Nat.le_succ _, rfl, rfl⟩
    · refine ⟨?_, ?_, rfl, rfl⟩ <;> simp [putP]
set_option maxHeartbeats 16000000 in
set_option maxRecDepth 100000 in
theorem begin_c {w0 w : World} {g : Nat} {v1 v2 v3 : Value} {p : PS} (h : Bd w0 w g v1 v2 v3 p) (hl : p.n.length ≤ 900000) (hl2 : p.s.length ≤ 900000) (hl3 : p.o.length ≤ 900000) (hx : p.x.size ≤ 4294967296) (name : ByteArray) :
    Calls Try.prog 14 #[.pointer (some ⟨g, 0, none⟩), .string name] w fun e w' => e = .returned (.tuple #[]) ∧ ∃ v1' v2' v3', Bd w0 w' g v1' v2' v3' (beginP p name) := by
  have H := Lib.hid h
  obtain ⟨f1, f2, f3, f4⟩ := flush_lens p
  obtain ⟨q, hq⟩ : ∃ q, flushP p = q := ⟨_, rfl⟩
  have hfl := flush_c h (by omega) (by omega) (by omega) hx
  unfold beginP
  simp only
  rw [hq] at f1 f2 f3 f4 hfl ⊢
  rw [← f3] at hl3
  have HL := Lib.hid (show q.n.length ≤ 1000000 by omega)
  have HL2 := Lib.hid (show q.s.length ≤ 1000000 by omega)
  have HL3 := Lib.hid (show q.o.length ≤ 1000000 by omega)
  clear h hl hl2 f1 f2 f3 f4
  obtain ⟨b1, hb1⟩ : ∃ b1, (q.wr || (decide (topP q.o < 0) && decide (0 < q.n.length))) = b1 := ⟨_, rfl⟩
  obtain ⟨b2, hb2⟩ : ∃ b2, (q.dp || decide ((64 : Int) < q.o.length)) = b2 := ⟨_, rfl⟩
  rw [hb1, hb2]
  obtain ⟨L, hL⟩ : ∃ L, q.n.length + 1 = L := ⟨_, rfl⟩
  have e1 : IntKind.i64.wrap ((L : Int) - 1) = (q.n.length : Int) := by have := HL.out; rw [IntKind.wrap_i64]; omega
  have HLL := Lib.hid hL
  clear hL
  cases hw : q.wr <;> cases hdp : q.dp <;> by_cases ht : topP q.o < 0
  all_goals
    have HW := Lib.hid hw
    have HDP := Lib.hid hdp
    have b3 := ht
    rw [hw] at hb1
    rw [hdp] at hb2
    simp only [Bool.true_or, Bool.false_or, ht, decide_true, decide_false, Bool.true_and, Bool.false_and] at hb1 hb2
    subst hb1 hb2
    clear hw hdp
    go_enter Try.func14, Try.ntmps14
    go_wp2_with (first | (go_at_call 18; refine hfl.mono ?_; rintro e w1 ⟨rfl, u1, u2, hu⟩; obtain ⟨A1, c1, rfl, -, -⟩ := Kd.R_reads hu.r1; obtain ⟨A3, c3, rfl, -, -⟩ := Kd.R_reads hu.r3; have H1 := Lib.hid hu; have hd0 := hu.c0; have hd2 := hu.c2; have hd4 := hu.c4; have hd5 := hu.c5; have he4 := hu.f 4; have he5 := hu.f 5; rw [HW.out] at hd5; rw [HDP.out] at hd4; have HE := Lib.hid (show ∀ m (z1 z2 : Bool), Bd w0 (((w1.drewN m).setCell ⟨g, 5, none⟩ (.bool z1)).setCell ⟨g, 4, none⟩ (.bool z2)) g _ u2 _ { q with wr := z1, dp := z2 } from fun m z1 z2 => ((hu.drewN m).set { q with wr := z1 } rfl rfl rfl 5 (.bool z1) rfl).set { q with wr := z1, dp := z2 } rfl rfl rfl 4 (.bool z2) rfl); clear hu) | (go_at_call 17; refine (top_c (w0 := w0) (g := g) (p := q) (by first | exact H1.out | exact H1.out.drew | exact H1.out.drewN _) HL3.out).mono ?_; rintro e w2 ⟨rfl, n, rfl⟩) | (go_at_call 24; refine (put_c (w0 := w0) (g := g) (p := PS.mk q.n q.s q.o q.x _ _) (by first | exact HE.out _ _ _ | exact HE.out 0 _ _ | exact (HE.out _ _ _).drew) (by exact HL.out) (by exact HL2.out) (by exact HL3.out) 1 0 0 ⟨#[]⟩ name).mono ?_; rintro e w3 ⟨rfl, x1, x2, hv⟩; obtain ⟨B1, d1, rfl, -, -⟩ := Kd.R_reads hv.r1; have hg0 := hv.c0; have hg2 := hv.c2; have hgf := hv.f 2; have hga0 : ∀ o : Obj, (w3.alloc o).cell? ⟨g, 0, none⟩ = _ := fun o => (hv.below (below_alloc (Below.refl _ _) o)).c0; have hga : ∀ o : Obj, (w3.alloc o).cell? ⟨g, 2, none⟩ = _ := fun o => (hv.below (below_alloc (Below.refl _ _) o)).c2; have hlen : (q.n ++ [(⟨1, 0, topP q.o, ⟨#[]⟩⟩ : Nod)]).length = L := (by rw [← HLL.out]; simp); simp only [putP, hlen] at hg0 hga0 hga hg2; have H3 := Lib.hid hv; clear hv))
    go_region_law ((first | refine Bd.push3 (w0 := w0) (g := g) (p := PS.mk (q.n ++ [(⟨1, 0, topP q.o, ⟨#[]⟩⟩ : Nod)]) (q.s ++ [name]) q.o q.x _ _) H3.out (by exact HL3.out) (q.n.length : Int) (.tmp 49) (.tmp 56) (by rfl) (by rfl) (by rfl) (by rfl) (by rfl) ?_ | refine Bd.push3 (w0 := w0) (g := g) (p := PS.mk (q.n ++ [(⟨1, 0, topP q.o, ⟨#[]⟩⟩ : Nod)]) (q.s ++ [name]) q.o q.x _ _) H3.out.drew (by exact HL3.out) (q.n.length : Int) (.tmp 49) (.tmp 56) (by rfl) (by rfl) (by rfl) (by rfl) (by rfl) ?_); intro A4 c4 w4 hB hd0 he0 hkeep; have hB := Lib.hid hB; clear hkeep)
    all_goals
      first | go_end0 | go_ret | ((try simp only [Exit.inBlock, Exit.then]); refine bodyPost_ret (results_none rfl _ _ _) rfl ?_)
      exact ⟨rfl, _, _, _, hB.out⟩
end Go.Proofs.Ytlhhhlimjajnlaa.X
end
section
set_option linter.unusedVariables false
set_option linter.unusedSimpArgs false
namespace Go.Proofs.Ytlhhhlimjajnlaa.X
open Go.RowKit Go.Proofs.Ytlhhhlimjajnlaa Go.Proofs.Ytlhhhlimjajnlaa.Q Go.Proofs.YtlhhhlimjajnlaaW.PrintWords Go.Proofs.YtlhhhlimjajnlaaW.PrintLast Go.Proofs.YtlhhhlimjajnlaaW.PrintMore
attribute [local go_sem] max2_int min2_int max_two min_two   
theorem flush_s (p : PS) : ∃ t, (flushP p).s = p.s ++ t := by
  unfold flushP
  split
  · exact ⟨[], by simp⟩
  · split
    · exact ⟨[], by simp⟩
    · exact ⟨_, rfl⟩
theorem Bd.cut3 {w0 W : World} {g n c : Nat} {v1 v2 : Value} {A : Option Addr} {p : PS} (h : Bd w0 W g v1 v2 (.slice A n c) p) (m : Nat) (hm : m ≤ p.o.length) :
    Bd w0 (W.setCell ⟨g, 2, none⟩ (.slice A m c)) g v1 v2 (.slice A m c) { p with o := p.o.take m } := by
  have r3 := Kd.R_take h.r3 hm
  exact ⟨blk_set h.1 2 _, h.ge, R_away_set h.r1 rfl h.n1 2 _, R_away_set h.r2 rfl h.n2 2 _, R_away_set r3 rfl (Kd.R_ne r3 h.1 (by decide)) 2 _, h.bel.setCell h.ge _⟩
set_option maxHeartbeats 16000000 in
set_option maxRecDepth 100000 in
theorem end_c {w0 w : World} {g : Nat} {v1 v2 v3 : Value} {p : PS} (h : Bd w0 w g v1 v2 v3 p) (hl : p.n.length ≤ 900000) (hl2 : p.s.length ≤ 900000) (hl3 : p.o.length ≤ 900000) (hx : p.x.size ≤ 4294967296) (hI : topP p.o < (p.s.length : Int)) (name : ByteArray) :
    Calls Try.prog 16 #[.pointer (some ⟨g, 0, none⟩), .string name] w fun e w' => e = .returned (.tuple #[]) ∧ ∃ v1' v2' v3', Bd w0 w' g v1' v2' v3' (endP p name) := by
  have H := Lib.hid h
  obtain ⟨f1, f2, f3, f4⟩ := flush_lens p
  obtain ⟨t5, f5⟩ := flush_s p
  obtain ⟨q, hq⟩ : ∃ q, flushP p = q := ⟨_, rfl⟩
  have hfl := flush_c h (by omega) (by omega) (by omega) hx
  unfold endP
  simp only
  rw [hq] at f1 f2 f3 f4 f5 hfl ⊢
  rw [← f3] at hl3 hI
  have hI2 : topP q.o < (q.s.length : Int) := by rw [f5, List.length_append]; omega
  have HL3 := Lib.hid (show q.o.length ≤ 1000000 by omega)
  clear h hl hl2 f1 f2 f3 f4 f5 hI
  by_cases ht : topP q.o < 0
  · rw [if_pos (Or.inl ht)]
    have b1 := eq_true ht
    clear hI2
    go_enter Try.func16, Try.ntmps16
    go_wp2_with (first | (go_at_call 18; refine hfl.mono ?_; rintro e w1 ⟨rfl, u1, u2, hu⟩; have hd5 := hu.c5; have he5 := hu.f 5; have H1 := Lib.hid hu; clear hu) | (go_at_call 17; refine (top_c (w0 := w0) (g := g) (p := q) (by first | exact H1.out | exact H1.out.drew | exact H1.out.drewN _) HL3.out).mono ?_; rintro e w2 ⟨rfl, n, rfl⟩))
    first | go_end0 | go_ret | ((try simp only [Exit.inBlock, Exit.then]); refine bodyPost_ret (results_none rfl _ _ _) rfl ?_)
    exact ⟨rfl, _, _, _, (H1.out.drewN n).set { q with wr := true } rfl rfl rfl 5 (.bool true) rfl⟩
  · have b1 := eq_false ht
    obtain ⟨T, hT⟩ : ∃ T, topP q.o = T := ⟨_, rfl⟩
    have hT0 : 0 ≤ T := by omega
    have hne : 0 < q.o.length := by
      cases ho : q.o with
      | nil => exfalso; apply ht; rw [ho]; decide
      | cons a b => simp
    rw [hT] at hI2 b1 ht ⊢
    have p0 := eq_true hT0
    have p1 := eq_true hI2
    obtain ⟨S, hS⟩ : ∃ S : ByteArray, q.s.getD T.toNat ⟨#[]⟩ = S := ⟨_, rfl⟩
    have HI := Lib.hid hI2
    have HT0 := Lib.hid hT0
    have HS := Lib.hid hS
    have HN := Lib.hid hne
    have HT := Lib.hid hT
    rw [hS]
    by_cases hd : S.data.toList = name.data.toList
    · rw [if_neg (by rintro (h | h); exact ht h; exact h hd)]
      have b2 : (S.toList == name.toList) = true := by rw [Lib.toList_data, Lib.toList_data, hd]; exact beq_self_eq_true _
      have b3 : (S.toList != name.toList) = false := by rw [bne, b2]; rfl
      have b4 : S.toList = name.toList := by rw [Lib.toList_data, Lib.toList_data, hd]
      obtain ⟨L, hL⟩ : ∃ L, q.o.length = L := ⟨_, rfl⟩
      obtain ⟨M, hM⟩ : ∃ M, L = M + 1 := ⟨L - 1, by omega⟩
      have HM := Lib.hid (show q.o.length = M + 1 by omega)
      have e1 : IntKind.i64.wrap ((L : Int) - 1) = (M : Int) := by have := HL3.out; rw [IntKind.wrap_i64]; omega
      have HLL := Lib.hid hL
      have HLM := Lib.hid hM
      have hdl : q.o.dropLast = q.o.take M := by rw [List.dropLast_eq_take, HM.out, Nat.add_sub_cancel]
      rw [hdl]
      clear hdl hne hI2 hT0 hT hS hL hM
      go_enter Try.func16, Try.ntmps16
      go_wp2_with (first | (go_at_call 18; refine hfl.mono ?_; rintro e w1 ⟨rfl, u1, u2, hu⟩; obtain ⟨A2, c2, rfl, -, hC⟩ := Kd.R_reads hu.r2; obtain ⟨ad, rfl, hr⟩ := Kd.at_string hC T HT0.out HI.out; rw [show rdOf ByteArray.empty q.s T = S from HS.out] at hr; obtain ⟨A3, c3, rfl, hle3, -⟩ := Kd.R_reads hu.r3; have hd1 := hu.c1; have hd2 := hu.c2; have he2 := hu.f 2; rw [HLL.out] at hd2 hle3; have p2 : ((M : Int) ≤ (c3 : Int)) := (by have := HLM.out; omega); have p3 := eq_true p2; have H1 := Lib.hid hu; clear hu hC) | (go_at_call 17; refine (top_c (w0 := w0) (g := g) (p := q) (by first | exact H1.out | exact H1.out.drew | exact H1.out.drewN _) HL3.out).mono ?_; rw [HT.out]; rintro e w2 ⟨rfl, n, rfl⟩))
      go_region
      all_goals
        first | go_end0 | go_ret | ((try simp only [Exit.inBlock, Exit.then]); refine bodyPost_ret (results_none rfl _ _ _) rfl ?_)
        first
          | exact ⟨rfl, _, _, _, Bd.cut3 (by first | exact H1.out | exact H1.out.drewN _ | exact (H1.out.drewN _).drew) M (by have := HM.out; omega)⟩
          | exact ⟨rfl, _, _, _, Bd.cut3 (by first | exact (H1.out.drewN _).drew.drew | exact (H1.out.drewN _).drew.drew.drew) M (by have := HM.out; omega)⟩
    · rw [if_pos (Or.inr hd)]
      have b2 : (S.toList == name.toList) = false := by rw [Lib.toList_data, Lib.toList_data, beq_eq_false_iff_ne]; exact hd
      have b3 : (S.toList != name.toList) = true := by rw [bne, b2]; rfl
      have b4 : ¬ S.toList = name.toList := by rw [Lib.toList_data, Lib.toList_data]; exact hd
      clear hne hI2 hT0 hT hS
      go_enter Try.func16, Try.ntmps16
      go_wp2_with (first | (go_at_call 18; refine hfl.mono ?_; rintro e w1 ⟨rfl, u1, u2, hu⟩; obtain ⟨A2, c2, rfl, -, hC⟩ := Kd.R_reads hu.r2; obtain ⟨ad, rfl, hr⟩ := Kd.at_string hC T HT0.out HI.out; rw [show rdOf ByteArray.empty q.s T = S from HS.out] at hr; have hd1 := hu.c1; have hd5 := hu.c5; have he5 := hu.f 5; have H1 := Lib.hid hu; clear hu hC) | (go_at_call 17; refine (top_c (w0 := w0) (g := g) (p := q) (by first | exact H1.out | exact H1.out.drew | exact H1.out.drewN _) HL3.out).mono ?_; rw [HT.out]; rintro e w2 ⟨rfl, n, rfl⟩))
      first | go_end0 | go_ret | ((try simp only [Exit.inBlock, Exit.then]); refine bodyPost_ret (results_none rfl _ _ _) rfl ?_)
      exact ⟨rfl, _, _, _, (H1.out.drewN n).set { q with wr := true } rfl rfl rfl 5 (.bool true) rfl⟩
end Go.Proofs.Ytlhhhlimjajnlaa.X
end
section
set_option linter.unusedVariables false
set_option linter.unusedSimpArgs false
namespace Go.Proofs.Ytlhhhlimjajnlaa.X
open Go.RowKit Go.Proofs.Ytlhhhlimjajnlaa Go.Proofs.Ytlhhhlimjajnlaa.Q Go.Proofs.YtlhhhlimjajnlaaW.PrintWords Go.Proofs.YtlhhhlimjajnlaaW.PrintLast Go.Proofs.YtlhhhlimjajnlaaW.PrintMore
attribute [local go_sem] max2_int min2_int max_two min_two   
theorem contains_c {w : World} {g c base : Nat} {ok : Nat → Prop} {xs : List ByteArray} (h : Kd.R Kd.string 9 w base ok (.slice (some ⟨g, 0, none⟩) xs.length c) xs) (i : Nat) (hi : i ≤ xs.length) (hl : xs.length ≤ 1000000) (cc : Nat) (x : ByteArray) :
    Calls Try.prog 25 #[.slice (some ⟨g, i, none⟩) (xs.length - i) cc, .string x] w fun e w' => e = .returned (.bool ((xs.drop i).any fun a => a.data.toList == x.data.toList)) ∧ w' = w := by
  have hc := (Kd.R_reads' h).2.2
  have hany : ∀ l : List ByteArray, Lib.containsS l x = l.any fun a => a.data.toList == x.data.toList := by
    intro l
    rw [Bool.eq_iff_iff, Lib.containsS_iff, List.any_eq_true]
    constructor
    · intro hm
      exact ⟨x, hm, beq_self_eq_true _⟩
    · rintro ⟨a, ha, he⟩
      have : a = x := by
        apply ByteArray.ext; apply Array.ext'
        exact eq_of_beq he
      rw [← this]; exact ha
  have := Try.slices_Contains_string g i (xs.length - i) cc (xs.drop i) x w (by rw [List.length_drop]; exact Nat.le_refl _) (by omega) (by
    intro j hj
    rw [List.length_drop] at hj
    obtain ⟨ad', he, hx⟩ := Kd.at_string hc ((i + j : Nat) : Int) (by omega) (by omega)
    cases he
    rw [Int.toNat_natCast] at hx
    have e1 : (⟨g, 0, none⟩ : Addr).add (i + j) = ⟨g, i + j, none⟩ := by simp [Addr.add]; omega
    rw [← e1, hx]
    unfold rdOf
    rw [Int.toNat_natCast]
    congr 2
    rw [List.getD_eq_getElem?_getD, List.getD_eq_getElem?_getD, List.getElem?_drop, List.getElem?_eq_getElem (by omega)])
  rw [List.take_of_length_le (by rw [List.length_drop]; exact Nat.le_refl _), hany] at this
  exact this
set_option maxHeartbeats 16000000 in
set_option maxRecDepth 100000 in
theorem attr_c' {w0 w : World} {g : Nat} {v1 v2 v3 : Value} {p : PS} (h : Bd w0 w g v1 v2 v3 p) (hl : p.n.length ≤ 900000) (hl2 : p.s.length ≤ 900000) (hl3 : p.o.length ≤ 900000) (hp : 0 < p.s.length) (hI : topP p.o < (p.s.length : Int)) (hI0 : 0 ≤ topP p.o) (name v : ByteArray) :
    Calls Try.prog 15 #[.pointer (some ⟨g, 0, none⟩), .string name, .string v] w fun e w' => e = .returned (.tuple #[]) ∧ ∃ v1' v2' v3', Bd w0 w' g v1' v2' v3' (attrS p name v) := by
  have H := Lib.hid h
  have HL := Lib.hid (show p.n.length ≤ 1000000 by omega)
  have HL2 := Lib.hid (show p.s.length ≤ 1000000 by omega)
  have HL3 := Lib.hid (show p.o.length ≤ 1000000 by omega)
  obtain ⟨gb, cb, hv, -, -, -⟩ := Kd.R_form h.r2 hp
  subst hv
  obtain ⟨T, hT⟩ : ∃ T : Nat, (topP p.o + 1).toNat = T := ⟨_, rfl⟩
  have hT1 : topP p.o + 1 = (T : Int) := by omega
  have hTs : T ≤ p.s.length := by omega
  have hle := (Kd.R_reads' h.r2).2.1
  have hK1 : cb = T → ∀ (w' : World) (cc : Nat), Calls Try.prog 25 #[.slice (some ⟨gb, 0, none⟩) (p.s.length - T) cc, .string name] w' fun e w'' => e = .returned (.bool ((p.s.drop T).any fun a => a.data.toList == name.data.toList)) ∧ w'' = w' := by
    intro hcb w' cc
    rw [show p.s.length - T = 0 from by omega, List.drop_eq_nil_of_le (by omega)]
    exact Try.slices_Contains_string_empty _ _ name w'
  have hK : ∀ (w' : World) (cc : Nat), Kd.R Kd.string 9 w' w0.heap.size (fun _ => True) (.slice (some ⟨gb, 0, none⟩) p.s.length cb) p.s →
      Calls Try.prog 25 #[.slice (some ⟨gb, T, none⟩) (p.s.length - T) cc, .string name] w' fun e w'' => e = .returned (.bool ((p.s.drop T).any fun a => a.data.toList == name.data.toList)) ∧ w'' = w' := fun w' cc hr => contains_c hr T hTs HL2.out cc name
  clear hle
  obtain ⟨b, hb⟩ : ∃ b, ((p.s.drop T).any fun a => a.data.toList == name.data.toList) = b := ⟨_, rfl⟩
  unfold attrS
  rw [hT]
  rw [hb] at hK hK1 ⊢
  have e1 : IntKind.i64.wrap (topP p.o + 1) = (T : Int) := by have := HL2.out; rw [IntKind.wrap_i64]; omega
  have p1 : ((T : Int) ≤ (p.s.length : Int)) = True := eq_true (by omega)
  have hc1 := h.c1
  have hc5 := h.c5
  have hf5 := h.f 5
  have HE := Lib.hid (show ∀ m (z1 : Bool), Bd w0 ((w.drewN m).setCell ⟨g, 5, none⟩ (.bool z1)) g v1 _ v3 { p with wr := z1 } from fun m z1 => (h.drewN m).set { p with wr := z1 } rfl rfl rfl 5 (.bool z1) rfl)
  have HK := Lib.hid hK
  have HK1 := Lib.hid hK1
  have HE0 := Lib.hid (show ∀ (z1 : Bool), Bd w0 (w.setCell ⟨g, 5, none⟩ (.bool z1)) g v1 _ v3 { p with wr := z1 } from fun z1 => h.set { p with wr := z1 } rfl rfl rfl 5 (.bool z1) rfl)
  cases hw : p.wr with
  | true =>
    rw [hw] at hc5
    rw [Bool.true_or]
    clear h hl hl2 hl3 hI hI0 hT hT1 hTs hK hK1 hp hb
    go_enter Try.func15, Try.ntmps15
    go_wp2
    go_region
    all_goals
      go_wp2_with (go_at_call 24; refine (put_c (w0 := w0) (g := g) (p := PS.mk p.n p.s p.o p.x p.dp true) (by with_reducible first | exact HE0.out true | exact (HE0.out true).drew | exact HE.out _ true | exact (HE.out _ true).drew | exact ((HE.out _ true).drew).drew) HL.out HL2.out HL3.out 2 0 0 v name).mono ?_; rintro e w4 ⟨rfl, x1, x2, hv⟩)
      first | go_end0 | go_ret | ((try simp only [Exit.inBlock, Exit.then]); refine bodyPost_ret (results_none rfl _ _ _) rfl ?_)
      exact ⟨rfl, _, _, _, hv⟩
  | false =>
    rw [hw] at hc5
    rw [Bool.false_or]
    clear h hl hl2 hl3 hI hI0 hT hT1 hTs hK hK1 hp hb
    by_cases hcb : cb = T
    · have HCB := Lib.hid hcb
      go_enter Try.func15, Try.ntmps15
      go_wp2
      go_region_with (first | (go_at_call 17; refine (top_c (w0 := w0) (g := g) (p := p) (by repeat (with_reducible first | exact H.out | apply Bd.drew | apply Bd.drewN)) HL3.out).mono ?_; rintro e w2 ⟨rfl, n, rfl⟩) | (go_at_call 25; first | (with_reducible refine (HK.out _ _ (by repeat (with_reducible first | exact H.out.r2 | apply Kd.R_drew | apply Kd.R_drewN))).mono ?_) | (with_reducible refine (HK1.out HCB.out _ _).mono ?_); rintro e w3 ⟨rfl, rfl⟩))
      all_goals
        go_wp2_with (go_at_call 24; refine (put_c (w0 := w0) (g := g) (p := PS.mk p.n p.s p.o p.x p.dp b) (by with_reducible first | exact HE0.out b | exact (HE0.out b).drew | exact HE.out _ b | exact (HE.out _ b).drew | exact ((HE.out _ b).drew).drew) HL.out HL2.out HL3.out 2 0 0 v name).mono ?_; rintro e w4 ⟨rfl, x1, x2, hv⟩)
        first | go_end0 | go_ret | ((try simp only [Exit.inBlock, Exit.then]); refine bodyPost_ret (results_none rfl _ _ _) rfl ?_)
        exact ⟨rfl, _, _, _, hv⟩
    · have HCB := trivial
      go_enter Try.func15, Try.ntmps15
      go_wp2
      go_region_with (first | (go_at_call 17; refine (top_c (w0 := w0) (g := g) (p := p) (by repeat (with_reducible first | exact H.out | apply Bd.drew | apply Bd.drewN)) HL3.out).mono ?_; rintro e w2 ⟨rfl, n, rfl⟩) | (go_at_call 25; (with_reducible refine (HK.out _ _ (by repeat (with_reducible first | exact H.out.r2 | apply Kd.R_drew | apply Kd.R_drewN))).mono ?_); rintro e w3 ⟨rfl, rfl⟩))
      all_goals
        go_wp2_with (go_at_call 24; refine (put_c (w0 := w0) (g := g) (p := PS.mk p.n p.s p.o p.x p.dp b) (by with_reducible first | exact HE0.out b | exact (HE0.out b).drew | exact HE.out _ b | exact (HE.out _ b).drew | exact ((HE.out _ b).drew).drew) HL.out HL2.out HL3.out 2 0 0 v name).mono ?_; rintro e w4 ⟨rfl, x1, x2, hv⟩)
        first | go_end0 | go_ret | ((try simp only [Exit.inBlock, Exit.then]); refine bodyPost_ret (results_none rfl _ _ _) rfl ?_)
        exact ⟨rfl, _, _, _, hv⟩
end Go.Proofs.Ytlhhhlimjajnlaa.X
end
section
set_option linter.unusedVariables false
set_option linter.unusedSimpArgs false
namespace Go.Proofs.Ytlhhhlimjajnlaa.X
open Go Go.RowKit Go.Proofs.Ytlhhhlimjajnlaa Go.Proofs.Ytlhhhlimjajnlaa.Q Go.Proofs.Ytlhhhlimjajnlaa.P11 Go.Proofs.YtlhhhlimjajnlaaW.PrintWords
def parseV (d : ByteArray) : (List ByteArray × List Nod) × Int :=
  if (lexV d).2 = 0 then treeP (flushP ((lexV d).1.foldl stepT psZero)) else (([], []), (lexV d).2)
end Go.Proofs.Ytlhhhlimjajnlaa.X
end
section
set_option linter.unusedVariables false
set_option linter.unusedSimpArgs false
namespace Go.Proofs.Ytlhhhlimjajnlaa.P12
open Go Go.RowKit Go.Proofs.Ytlhhhlimjajnlaa Go.Proofs.Ytlhhhlimjajnlaa.Q Go.Proofs.YtlhhhlimjajnlaaW.PrintWords Go.Proofs.Ytlhhhlimjajnlaa.X Go.Proofs.Ytlhhhlimjajnlaa.P11
def opens (k : Int) : Bool := k == 1 || k == 2
def inTag (k : Int) : Bool := k == 2 || k == 3 || k == 4
def Seg (l : List UInt8) : Int → Bool → List Tok → Int → Bool → Prop
  | a, x, [], b, y => a = b ∧ x = y
  | a, x, t :: r, b, y => a ≤ t.f1 ∧ t.f1 < t.f2 ∧ t.f2 ≤ l.length ∧ (∀ n : Nat, a ≤ n → (n : Int) < t.f1 → spaceB (l.getD n 0) = true ∧ x = true) ∧ x = inTag t.f0 ∧ Seg l t.f2 (opens t.f0) r b y
theorem Seg.append {l : List UInt8} : ∀ {r1 r2 : List Tok} {a b c : Int} {x y z : Bool}, Seg l a x r1 b y → Seg l b y r2 c z → Seg l a x (r1 ++ r2) c z
  | [], r2, a, b, c, x, y, z, h1, h2 => by
    obtain ⟨rfl, rfl⟩ := h1
    exact h2
  | t :: r1, r2, a, b, c, x, y, z, h1, h2 => by
    obtain ⟨e1, e2, e3, e4, e5, e6⟩ := h1
    exact ⟨e1, e2, e3, e4, e5, Seg.append e6 h2⟩
theorem Seg.one {l : List UInt8} {t : Tok} {a b : Int} {x : Bool} (h1 : t.f1 = a) (h2 : t.f2 = b) (h3 : a < b) (h4 : b ≤ l.length) (h5 : x = inTag t.f0) : Seg l a x [t] b (opens t.f0) := by
  refine ⟨by omega, by omega, by omega, fun n c1 c2 => by omega, h5, h2, rfl⟩
theorem skip_spaces (l : List UInt8) (a : Int) (h0 : 0 ≤ a) (n : Nat) (h1 : a ≤ n) (h2 : (n : Int) < skipP l a) : spaceB (l.getD n 0) = true := by
  unfold skipP at h2
  split at h2
  · rename_i hc
    have hk : n - a.toNat < ((l.drop a.toNat).takeWhile spaceB).length := by omega
    have hm : ((l.drop a.toNat).takeWhile spaceB)[n - a.toNat] ∈ (l.drop a.toNat).takeWhile spaceB := List.getElem_mem hk
    have hs := List.all_eq_true.1 (List.all_takeWhile (p := spaceB) (l := l.drop a.toNat)) _ hm
    have hle := takeWhile_le spaceB (l.drop a.toNat)
    rw [List.length_drop] at hle
    have hpre : (l.drop a.toNat).takeWhile spaceB <+: l.drop a.toNat := List.takeWhile_prefix spaceB
    have he := hpre.getElem hk
    rw [he, List.getElem_drop] at hs
    rw [List.getD_eq_getElem?_getD, List.getElem?_eq_getElem (by omega)]
    simp only [Option.getD_some]
    have hidx : a.toNat + (n - a.toNat) = n := by omega
    simp only [hidx] at hs
    exact hs
  · omega
theorem Seg.tag {l : List UInt8} {t : Tok} {a b : Int} (h0 : 0 ≤ a) (ha : a ≤ l.length) (h1 : t.f1 = skipP l a) (h2 : t.f2 = b) (h3 : skipP l a < b) (h4 : b ≤ l.length) (h5 : inTag t.f0 = true) : Seg l a true [t] b (opens t.f0) := by
  have := skipP_in l a h0 ha
  refine ⟨by omega, by omega, by omega, fun n c1 c2 => ⟨skip_spaces l a h0 n c1 (by omega), rfl⟩, h5.symm, h2, rfl⟩
theorem attr_seg (d : ByteArray) (a : Int) (h0 : 0 ≤ a) (h1 : a ≤ (d.size : Int)) (new : List Tok) (a' : Int) (h : attrP d a = some (new, a')) : Seg d.data.toList a true new a' true := by
  have hroom := attr_room d a h0 h1 new a' h
  have hsz : d.data.toList.length = d.size := (Lib.size_eq d).symm
  unfold attrP at h
  obtain ⟨F, hF⟩ : ∃ F, skipP d.data.toList a = F := ⟨_, rfl⟩
  obtain ⟨E, hE⟩ : ∃ E, nameEndP d.data.toList F = E := ⟨_, rfl⟩
  obtain ⟨Q, hQ⟩ : ∃ Q, skipP d.data.toList E = Q := ⟨_, rfl⟩
  obtain ⟨O, hO⟩ : ∃ O, skipP d.data.toList (Q + 1) = O := ⟨_, rfl⟩
  simp only [hF, hE, hQ, hO] at h
  have hF1 := skipP_in d.data.toList a (by omega) (by omega)
  rw [hF] at hF1
  have hE1 := nameEndP_in d.data.toList F (by omega) (by omega)
  rw [hE] at hE1
  have hQ1 := skipP_in d.data.toList E (by omega) (by omega)
  rw [hQ] at hQ1
  by_cases c1 : F = a
  · rw [if_pos c1] at h; cases h
  rw [if_neg c1] at h
  by_cases c2 : E = F
  · rw [if_pos c2] at h; cases h
  rw [if_neg c2] at h
  by_cases c3 : standsB d Q ⟨#[61]⟩ = false
  · rw [if_pos c3] at h; cases h
  rw [if_neg c3] at h
  have hr1 := stands_room d Q 61 (by omega) (by simpa using c3)
  have hO1 := skipP_in d.data.toList (Q + 1) (by omega) (by omega)
  rw [hO] at hO1
  by_cases c4 : standsB d O ⟨#[34]⟩ = false ∧ standsB d O ⟨#[39]⟩ = false
  · rw [if_pos c4] at h; cases h
  rw [if_neg c4] at h
  obtain ⟨c, hc⟩ : ∃ c, Lib.cut (d.data.toList.drop (O + 1).toNat) (partB d O (O + 1)).data.toList = c := ⟨_, rfl⟩
  rw [hc] at h
  by_cases c5 : c.2.2 = false
  · rw [if_pos c5] at h; cases h
  rw [if_neg c5] at h
  by_cases c6 : 0 ≤ Lib.indexByte c.1 60
  · rw [if_pos c6] at h; cases h
  rw [if_neg c6] at h
  cases hd : dec c.1 with
  | none => rw [hd] at h; cases h
  | some v =>
    rw [hd] at h
    injection h with h
    injection h with h2 h3
    subst h3 h2
    exact Seg.tag h0 (by omega) hF.symm rfl (by omega) (by omega) rfl
theorem attrs_seg (d : ByteArray) : ∀ (n : Nat) (a : Int) (acc r : List Tok) (a' : Int), 0 ≤ a → a ≤ (d.size : Int) → attrsF d n a acc = some (r, a') → ∃ r', r = acc ++ r' ∧ Seg d.data.toList a true r' a' false := by
  intro n
  induction n with
  | zero => intro a acc r a' _ _ h; cases h
  | succ n ih =>
    intro a acc r a' h0 h1 h
    have hsz : d.data.toList.length = d.size := (Lib.size_eq d).symm
    unfold attrsF at h
    obtain ⟨I, hI⟩ : ∃ I, skipP d.data.toList a = I := ⟨_, rfl⟩
    have hI1 := skipP_in d.data.toList a (by omega) (by omega)
    rw [hI] at hI1
    rw [hI] at h
    by_cases c1 : standsB d I ⟨#[62]⟩ = true
    · rw [if_pos c1] at h
      have := stands_room2 d I ⟨#[62]⟩ (by omega) (by decide) c1
      rw [show ((⟨#[62]⟩ : ByteArray).size : Int) = 1 from rfl] at this
      injection h with h; injection h with h2 h3
      subst h3 h2
      exact ⟨_, rfl, Seg.tag h0 (by omega) hI.symm rfl (by omega) (by omega) rfl⟩
    rw [if_neg c1] at h
    by_cases c2 : standsB d I ⟨#[47, 62]⟩ = true
    · rw [if_pos c2] at h
      have := stands_room2 d I ⟨#[47, 62]⟩ (by omega) (by decide) c2
      rw [show ((⟨#[47, 62]⟩ : ByteArray).size : Int) = 2 from rfl] at this
      injection h with h; injection h with h2 h3
      subst h3 h2
      exact ⟨_, rfl, Seg.tag h0 (by omega) hI.symm rfl (by omega) (by omega) rfl⟩
    rw [if_neg c2] at h
    cases hA : attrP d a with
    | none => rw [hA] at h; cases h
    | some v =>
      obtain ⟨new, p⟩ := v
      rw [hA] at h
      have hr := attr_room d a (by omega) h1 new p hA
      obtain ⟨r', e, hs⟩ := ih p (acc ++ new) r a' (by omega) hr.2.1 h
      exact ⟨new ++ r', by rw [e, List.append_assoc], (attr_seg d a h0 h1 new p hA).append hs⟩
theorem step_seg (d : ByteArray) (a : Int) (h0 : 0 ≤ a) (h1 : a < (d.size : Int)) (new : List Tok) (a' : Int) (h : stepP d a = some (new, a')) : Seg d.data.toList a false new a' false := by
  have hroom := step_room d a h0 h1 new a' h
  have hsz : d.data.toList.length = d.size := (Lib.size_eq d).symm
  unfold stepP at h
  by_cases c1 : standsB d a ⟨#[60, 33, 45, 45]⟩ = true
  · rw [if_pos c1] at h
    unfold commentP at h
    obtain ⟨i, hi⟩ : ∃ i, Lib.index (d.data.toList.drop (a.toNat + 4)) [45, 45] = i := ⟨_, rfl⟩
    simp only [hi] at h
    by_cases c : i < 0
    · rw [if_pos c] at h; cases h
    rw [if_neg c] at h
    by_cases c' : Lib.hasPrefix ((d.data.toList.drop (a.toNat + 4)).drop i.toNat) [45, 45, 62] = true
    · rw [if_pos c'] at h
      injection h with h; injection h with h2 h3
      subst h3 h2
      exact Seg.one rfl rfl (by omega) (by omega) rfl
    · rw [if_neg c'] at h; cases h
  rw [if_neg c1] at h
  by_cases c2 : standsB d a ⟨#[60, 33, 91, 67, 68, 65, 84, 65, 91]⟩ = true
  · rw [if_pos c2] at h
    unfold plainP at h
    by_cases c : (Lib.cut (d.data.toList.drop (a.toNat + 9)) [93, 93, 62]).2.2 = true
    · simp only [c, if_true] at h
      injection h with h; injection h with h2 h3
      subst h3 h2
      exact Seg.one rfl rfl (by omega) (by omega) rfl
    · simp only [c] at h; cases h
  rw [if_neg c2] at h
  by_cases c3 : standsB d a ⟨#[60, 47]⟩ = true
  · rw [if_pos c3] at h
    unfold closingP at h
    obtain ⟨E, hE⟩ : ∃ E, nameEndP d.data.toList (a + 2) = E := ⟨_, rfl⟩
    obtain ⟨T, hT⟩ : ∃ T, skipP d.data.toList E = T := ⟨_, rfl⟩
    simp only [hE, hT] at h
    by_cases c : E = a + 2
    · rw [if_pos c] at h; cases h
    rw [if_neg c] at h
    by_cases c' : standsB d T ⟨#[62]⟩ = true
    · rw [if_pos c'] at h
      injection h with h; injection h with h2 h3
      subst h3 h2
      exact Seg.one rfl rfl (by omega) (by omega) rfl
    · rw [if_neg c'] at h; cases h
  rw [if_neg c3] at h
  by_cases c4 : standsB d a ⟨#[60]⟩ = true
  · rw [if_pos c4] at h
    unfold tagP at h
    obtain ⟨E, hE⟩ : ∃ E, nameEndP d.data.toList (a + 1) = E := ⟨_, rfl⟩
    have hE1 := nameEndP_in d.data.toList (a + 1) (by omega) (by omega)
    rw [hE] at hE1
    simp only [hE] at h
    by_cases c : E = a + 1
    · rw [if_pos c] at h; cases h
    rw [if_neg c] at h
    obtain ⟨r', e, hs⟩ := attrs_seg d _ _ _ _ _ (by omega) (by omega) h
    rw [e]
    exact Seg.append (Seg.one (t := ⟨1, a, E, partB d (a + 1) E, ⟨#[]⟩⟩) (b := E) rfl rfl (by omega) (by omega) rfl) hs
  rw [if_neg c4] at h
  unfold textP at h
  obtain ⟨b, hb⟩ : ∃ b, (Lib.cut (d.data.toList.drop a.toNat) [60]).1 = b := ⟨_, rfl⟩
  simp only [hb] at h
  cases hd : dec b with
  | none => rw [hd] at h; cases h
  | some v =>
    rw [hd] at h
    injection h with h; injection h with h2 h3
    subst h3 h2
    exact Seg.one rfl rfl (by omega) (by omega) rfl
theorem lexF_seg (s : ByteArray) (n : Nat) : ∀ (a : Int) (acc l : List Tok), 0 ≤ a → a ≤ (s.size : Int) → lexF s n a acc = some l → ∃ r, l = acc ++ r ∧ Seg s.data.toList a false r s.size false := by
  induction n with
  | zero => intro a acc l _ _ h; cases h
  | succ n ih =>
    intro a acc l h0 h1 h
    unfold lexF at h
    by_cases hlt : a < (s.size : Int)
    · rw [if_pos hlt] at h
      cases hS : stepP s a with
      | none => rw [hS] at h; cases h
      | some v =>
        obtain ⟨new, a'⟩ := v
        rw [hS] at h
        have hroom := step_room s a h0 hlt new a' hS
        obtain ⟨r, e, hs⟩ := ih a' (acc ++ new) l (by omega) hroom.2.1 h
        exact ⟨new ++ r, by rw [e, List.append_assoc], (step_seg s a h0 hlt new a' hS).append hs⟩
    · rw [if_neg hlt] at h
      obtain rfl := Option.some.inj h
      exact ⟨[], by simp, by omega, rfl⟩
theorem lexV_seg (s : ByteArray) (h : (lexV s).2 = 0) : Seg s.data.toList 0 false (lexV s).1 s.size false := by
  unfold lexV at h ⊢
  split
  · rename_i c; rw [if_pos c] at h; cases h
  · rename_i c
    rw [if_neg c] at h
    split
    · rename_i c'; rw [if_pos c'] at h; cases h
    · rename_i c'
      rw [if_neg c'] at h
      cases ho : lexO s with
      | none => rw [ho] at h; cases h
      | some l =>
        obtain ⟨r, e, hs⟩ := lexF_seg s _ 0 [] l (by omega) (by omega) ho
        rw [List.nil_append] at e
        subst e
        exact hs
end Go.Proofs.Ytlhhhlimjajnlaa.P12
end
section
set_option linter.unusedVariables false
set_option linter.unusedSimpArgs false
namespace Go.Proofs.Ytlhhhlimjajnlaa.X
open Go Go.RowKit Go.Proofs.Ytlhhhlimjajnlaa Go.Proofs.Ytlhhhlimjajnlaa.Q Go.Proofs.Ytlhhhlimjajnlaa.P11 Go.Proofs.Ytlhhhlimjajnlaa.P12 Go.Proofs.YtlhhhlimjajnlaaW.PrintWords
theorem decF_len : ∀ (n : Nat) (l v : List UInt8), decF n l = some v → v.length ≤ 4 * l.length
  | 0, [], v, h => by obtain rfl := Option.some.inj h; simp
  | n + 1, [], v, h => by obtain rfl := Option.some.inj h; simp
  | 0, c :: t, v, h => by cases h
  | n + 1, c :: t, v, h => by
    unfold decF at h
    by_cases hc : c = 38
    · rw [if_pos hc] at h
      by_cases he : (entL (c :: t)).2 = 0
      · rw [if_pos he] at h; cases h
      · rw [if_neg he] at h
        cases hr : decF n ((c :: t).drop (entL (c :: t)).2.toNat) with
        | none => rw [hr] at h; cases h
        | some u =>
          rw [hr] at h
          have h := Option.some.inj h
          have ih := decF_len n _ u hr
          have ho := entL_ok (c :: t)
          rw [List.length_drop] at ih
          rw [← h, List.length_append]
          omega
    · rw [if_neg hc] at h
      cases hr : decF n t with
      | none => rw [hr] at h; cases h
      | some u =>
        rw [hr] at h
        have h := Option.some.inj h
        have ih := decF_len n t u hr
        rw [← h, List.length_cons, List.length_cons]
        omega
def Vals (l : List Tok) : Prop := ∀ t, t ∈ l → t.f0 = 6 → (t.f4.size : Int) ≤ 4 * (t.f2 - t.f1)
theorem attr_kind (d : ByteArray) (a : Int) (new : List Tok) (a' : Int) (h : attrP d a = some (new, a')) : ∀ t, t ∈ new → t.f0 = 2 := by
  unfold attrP at h
  simp only at h
  repeat' split at h
  all_goals first
    | (injection h with h; injection h with h2 h3; intro t ht; rw [← h2] at ht; rw [List.mem_singleton.1 ht]; done)
    | (exact absurd h (by simp))
theorem attrs_kind (d : ByteArray) : ∀ (n : Nat) (a : Int) (acc r : List Tok) (a' : Int), (∀ t, t ∈ acc → ¬ t.f0 = 6) → attrsF d n a acc = some (r, a') → ∀ t, t ∈ r → ¬ t.f0 = 6 := by
  intro n
  induction n with
  | zero => intro a acc r a' _ h; cases h
  | succ n ih =>
    intro a acc r a' hacc h
    unfold attrsF at h
    split at h
    · injection h with h; injection h with h2 h3
      intro t ht
      rw [← h2] at ht
      rcases List.mem_append.1 ht with ht | ht
      · exact hacc t ht
      · rw [List.mem_singleton.1 ht]; show ¬ (3 : Int) = 6; omega
    split at h
    · injection h with h; injection h with h2 h3
      intro t ht
      rw [← h2] at ht
      rcases List.mem_append.1 ht with ht | ht
      · exact hacc t ht
      · rw [List.mem_singleton.1 ht]; show ¬ (4 : Int) = 6; omega
    cases hA : attrP d a with
    | none => rw [hA] at h; cases h
    | some v =>
      obtain ⟨new, p⟩ := v
      rw [hA] at h
      refine ih p (acc ++ new) r a' (fun t ht => ?_) h
      rcases List.mem_append.1 ht with ht | ht
      · exact hacc t ht
      · rw [attr_kind d a new p hA t ht]; omega
theorem step_vals (d : ByteArray) (a : Int) (new : List Tok) (a' : Int) (h : stepP d a = some (new, a')) : Vals new := by
  unfold stepP at h
  split at h
  · unfold commentP at h
    simp only at h
    split at h
    · cases h
    split at h
    · injection h with h; injection h with h2 h3
      intro t ht h6
      rw [← h2] at ht
      rw [List.mem_singleton.1 ht] at h6
      exact absurd h6 (by show ¬ (7 : Int) = 6; omega)
    · cases h
  split at h
  · unfold plainP at h
    simp only at h
    split at h
    · injection h with h; injection h with h2 h3
      intro t ht h6
      rw [← h2] at ht
      rw [List.mem_singleton.1 ht]
      show (((⟨List.toArray _⟩ : ByteArray).size : Nat) : Int) ≤ 4 * (_ - _)
      rw [show ∀ l : List UInt8, (⟨l.toArray⟩ : ByteArray).size = l.length from fun l => by simp [ByteArray.size]]
      dsimp only
      omega
    · cases h
  split at h
  · unfold closingP at h
    simp only at h
    split at h
    · cases h
    split at h
    · injection h with h; injection h with h2 h3
      intro t ht h6
      rw [← h2] at ht
      rw [List.mem_singleton.1 ht] at h6
      exact absurd h6 (by show ¬ (5 : Int) = 6; omega)
    · cases h
  split at h
  · unfold tagP at h
    simp only at h
    split at h
    · cases h
    intro t ht h6
    exact absurd h6 (attrs_kind d _ _ _ _ _ (fun t ht => by rw [List.mem_singleton.1 ht]; show ¬ (1 : Int) = 6; omega) h t ht)
  · unfold textP at h
    simp only at h
    cases hd : dec (Lib.cut (d.data.toList.drop a.toNat) [60]).1 with
    | none => rw [hd] at h; cases h
    | some v =>
      rw [hd] at h
      injection h with h; injection h with h2 h3
      intro t ht h6
      rw [← h2] at ht
      rw [List.mem_singleton.1 ht]
      have := decF_len _ _ v hd
      show (((⟨List.toArray _⟩ : ByteArray).size : Nat) : Int) ≤ 4 * (_ - _)
      rw [show ∀ l : List UInt8, (⟨l.toArray⟩ : ByteArray).size = l.length from fun l => by simp [ByteArray.size]]
      dsimp only
      omega
theorem lexF_vals (s : ByteArray) (n : Nat) : ∀ (a : Int) (acc l : List Tok), Vals acc → lexF s n a acc = some l → Vals l := by
  induction n with
  | zero => intro a acc l _ h; cases h
  | succ n ih =>
    intro a acc l hv h
    unfold lexF at h
    split at h
    · cases hS : stepP s a with
      | none => rw [hS] at h; cases h
      | some v =>
        obtain ⟨new, a'⟩ := v
        rw [hS] at h
        refine ih a' (acc ++ new) l (fun t ht => ?_) h
        rcases List.mem_append.1 ht with ht | ht
        · exact hv t ht
        · exact step_vals s a new a' hS t ht
    · obtain rfl := Option.some.inj h
      exact hv
theorem lexV_vals (s : ByteArray) : Vals (lexV s).1 := by
  unfold lexV
  split
  · intro t ht; cases ht
  split
  · intro t ht; cases ht
  · cases h : lexO s with
    | none => intro t ht; cases ht
    | some l => exact lexF_vals s _ 0 [] l (fun t ht => by cases ht) h
def Inv (st : PS) (x : Bool) (k : Nat) (m : Int) : Prop :=
  st.s.length = st.n.length ∧ st.n.length ≤ 2 * k ∧ st.o.length ≤ k ∧ (∀ z, z ∈ st.o → 0 ≤ z ∧ z < (st.s.length : Int)) ∧ (x = true → st.o ≠ []) ∧ (st.x.size : Int) ≤ m ∧ 0 ≤ m
theorem topP_in (o : List Int) (h : o ≠ []) : topP o ∈ o := by
  rcases List.eq_nil_or_concat o with h' | ⟨pre, z, h'⟩
  · exact absurd h' h
  · rw [h']; unfold topP; simp
theorem topP_lt {st : PS} {x : Bool} {k : Nat} {m : Int} (h : Inv st x k m) : topP st.o < (st.s.length : Int) := by
  by_cases ho : st.o = []
  · rw [ho]; show (-1 : Int) < _; omega
  · exact (h.2.2.2.1 _ (topP_in _ ho)).2
theorem topP_ge {st : PS} {k : Nat} {m : Int} (h : Inv st true k m) : 0 ≤ topP st.o := (h.2.2.2.1 _ (topP_in _ (h.2.2.2.2.1 rfl))).1
theorem inv_flush {st : PS} {x : Bool} {k : Nat} {m : Int} (h : Inv st x k m) : (flushP st).s.length = (flushP st).n.length ∧ (flushP st).n.length ≤ st.n.length + 1 ∧ st.s.length ≤ (flushP st).s.length ∧ (flushP st).o = st.o ∧ (flushP st).x = ⟨#[]⟩ := by
  obtain ⟨h1, -⟩ := h
  unfold flushP
  split
  · exact ⟨h1, by show st.n.length ≤ _; omega, Nat.le_refl _, rfl, rfl⟩
  split
  · exact ⟨h1, by show st.n.length ≤ _; omega, Nat.le_refl _, rfl, rfl⟩
  · refine ⟨by simp [putP, h1], by simp [putP], by simp [putP], rfl, rfl⟩
theorem bz : (⟨#[]⟩ : ByteArray).size = 0 := rfl
theorem inv_end {st : PS} {x : Bool} {k : Nat} {m : Int} (h : Inv st x k m) (name : ByteArray) : Inv (endP st name) false (k + 1) m := by
  obtain ⟨f1, f2, f3, f4, f5⟩ := inv_flush h
  obtain ⟨h1, h2, h3, h4, h5, h6, h7⟩ := h
  unfold endP
  simp only
  split
  · refine ⟨f1, by show (flushP st).n.length ≤ _; omega, by show (flushP st).o.length ≤ _; rw [f4]; omega, ?_, fun e => (absurd e (by decide)), by show ((flushP st).x.size : Int) ≤ m; rw [f5, bz]; exact h7, h7⟩
    intro z hz
    have hz : z ∈ (flushP st).o := hz
    rw [f4] at hz
    have := h4 z hz
    show 0 ≤ z ∧ z < ((flushP st).s.length : Int)
    omega
  · refine ⟨f1, by show (flushP st).n.length ≤ _; omega, by show (flushP st).o.dropLast.length ≤ _; rw [f4, List.length_dropLast]; omega, ?_, fun e => (absurd e (by decide)), by show ((flushP st).x.size : Int) ≤ m; rw [f5, bz]; exact h7, h7⟩
    intro z hz
    have hz : z ∈ (flushP st).o.dropLast := hz
    rw [f4] at hz
    have := h4 z (((List.dropLast_sublist _).subset hz))
    show 0 ≤ z ∧ z < ((flushP st).s.length : Int)
    omega
theorem inv_mono {st : PS} {x : Bool} {k : Nat} {m m' : Int} (h : Inv st x k m) (hm : m ≤ m') : Inv st false (k + 1) m' := by
  obtain ⟨h1, h2, h3, h4, h5, h6, h7⟩ := h
  exact ⟨h1, by omega, by omega, h4, fun e => (absurd e (by decide)), by omega, by omega⟩
theorem inv_step {st : PS} {x : Bool} {k : Nat} {m : Int} (h : Inv st x k m) (t : Tok) (hx : x = inTag t.f0) (hlt : t.f1 < t.f2) (hv : t.f0 = 6 → (t.f4.size : Int) ≤ 4 * (t.f2 - t.f1)) : Inv (stepT st t) (opens t.f0) (k + 1) (m + 4 * (t.f2 - t.f1)) := by
  obtain ⟨f1, f2, f3, f4, f5⟩ := inv_flush h
  have hm : m ≤ m + 4 * (t.f2 - t.f1) := by omega
  unfold stepT
  by_cases c7 : t.f0 = 7
  · rw [if_pos c7, c7]; exact inv_mono h hm
  rw [if_neg c7]
  by_cases c6 : t.f0 = 6
  · rw [if_pos c6]
    have hv := hv c6
    rw [c6]
    obtain ⟨h1, h2, h3, h4, h5, h6, h7⟩ := h
    refine ⟨h1, by show st.n.length ≤ _; omega, by show st.o.length ≤ _; omega, h4, fun e => (absurd e (by decide)), ?_, by omega⟩
    show ((st.x ++ t.f4).size : Int) ≤ _
    rw [ByteArray.size_append]; omega
  rw [if_neg c6]
  by_cases c1 : t.f0 = 1
  · rw [if_pos c1, c1]
    obtain ⟨h1, h2, h3, h4, h5, h6, h7⟩ := h
    unfold beginP
    refine ⟨by simp [putP, f1], by simp [putP]; omega, by simp [putP, f4]; omega, ?_, fun _ => by simp [putP], by show ((flushP st).x.size : Int) ≤ _; rw [f5, bz]; omega, by omega⟩
    intro z hz
    have hz : z ∈ (flushP st).o ++ [((flushP st).n.length : Int)] := hz
    show 0 ≤ z ∧ z < (((flushP st).s ++ [t.f3]).length : Int)
    rw [List.length_append, List.length_singleton]
    rcases List.mem_append.1 hz with hz | hz
    · rw [f4] at hz
      have := h4 z hz
      omega
    · have := List.mem_singleton.1 hz
      omega
  rw [if_neg c1]
  by_cases c2 : t.f0 = 2
  · rw [if_pos c2, c2]
    rw [c2] at hx
    obtain ⟨h1, h2, h3, h4, h5, h6, h7⟩ := h
    unfold attrS
    refine ⟨by simp [putP, h1], by simp [putP]; omega, by show st.o.length ≤ _; omega, ?_, fun _ => h5 hx, by show (st.x.size : Int) ≤ _; omega, by omega⟩
    intro z hz
    have := h4 z hz
    show 0 ≤ z ∧ z < ((st.s ++ [t.f3]).length : Int)
    rw [List.length_append, List.length_singleton]
    omega
  rw [if_neg c2]
  have ho : opens t.f0 = false := by
    unfold opens
    rw [show (t.f0 == 1) = false from by simpa using c1, show (t.f0 == 2) = false from by simpa using c2]; rfl
  rw [ho]
  have hmm : ∀ {s : PS}, Inv s false (k + 1) m → Inv s false (k + 1) (m + 4 * (t.f2 - t.f1)) := by
    rintro s ⟨h1, h2, h3, h4, h5, h6, h7⟩
    exact ⟨h1, h2, h3, h4, h5, by omega, by omega⟩
  split
  · exact hmm (inv_end h _)
  split
  · exact hmm (inv_end h _)
  · exact inv_mono h hm
theorem seg_le (L : List UInt8) : ∀ (r : List Tok) (a b : Int) (x y : Bool), Seg L a x r b y → a ≤ b := by
  intro r
  induction r with
  | nil => intro a b x y h; obtain ⟨rfl, _⟩ := h; omega
  | cons u r ih =>
    intro a b x y h
    obtain ⟨h1, h2, h3, h4, h5, h6⟩ := h
    have := ih _ _ _ _ h6
    omega
theorem inv_run (L : List UInt8) : ∀ (l : List Tok) (a b : Int) (x y : Bool) (st : PS) (k : Nat) (m : Int), Seg L a x l b y → Vals l → Inv st x k m → ∀ i, i ≤ l.length →
    ∃ x' m', Inv ((l.take i).foldl stepT st) x' (k + i) m' ∧ m' ≤ m + 4 * (b - a) ∧ (∀ t, l[i]? = some t → x' = inTag t.f0) := by
  intro l
  induction l with
  | nil =>
    intro a b x y st k m hseg _ hinv i hi
    have : i = 0 := by simpa using hi
    subst this
    obtain ⟨rfl, _⟩ := hseg
    exact ⟨x, m, hinv, by omega, fun t ht => by simp at ht⟩
  | cons u r ih =>
    intro a b x y st k m hseg hv hinv i hi
    have hle := seg_le L _ _ _ _ _ hseg
    obtain ⟨h1, h2, h3, h4, h5, h6⟩ := hseg
    cases i with
    | zero => exact ⟨x, m, hinv, by omega, fun t ht => by simp at ht; rw [← ht]; exact h5⟩
    | succ i =>
      have hst := inv_step hinv u h5 h2 (hv u (List.mem_cons_self ..))
      obtain ⟨x', m', i1, i2, i3⟩ := ih u.f2 b (opens u.f0) y (stepT st u) (k + 1) _ h6 (fun t ht => hv t (List.mem_cons_of_mem _ ht)) hst i (by simpa using hi)
      refine ⟨x', m', ?_, ?_, fun t ht => i3 t (by simpa using ht)⟩
      · rw [show k + (i + 1) = k + 1 + i from by omega]; exact i1
      · omega
theorem inv_zero : Inv psZero false 0 0 := ⟨rfl, Nat.le_refl _, Nat.le_refl _, fun z hz => (by cases hz), fun e => (by cases e), Int.le_refl _, Int.le_refl _⟩
end Go.Proofs.Ytlhhhlimjajnlaa.X
end
section
set_option linter.unusedVariables false
set_option linter.unusedSimpArgs false
namespace Go.Proofs.Ytlhhhlimjajnlaa.X
open Go Go.RowKit Go.Proofs.Ytlhhhlimjajnlaa Go.Proofs.Ytlhhhlimjajnlaa.Q Go.Proofs.Ytlhhhlimjajnlaa.P11 Go.Proofs.Ytlhhhlimjajnlaa.P12 Go.Proofs.YtlhhhlimjajnlaaW.PrintWords
theorem part_size (d : ByteArray) (i j : Int) : (partB d i j).size ≤ d.size := by
  unfold partB
  rw [Lib.size_eq, Lib.size_eq, Lib.extract_data, List.length_take, List.length_drop]; omega
theorem none_size (d : ByteArray) : (⟨#[]⟩ : ByteArray).size ≤ d.size := Nat.zero_le _
def Nms (d : ByteArray) (l : List Tok) : Prop := ∀ t, t ∈ l → t.f3.size ≤ d.size
theorem nms_app {d : ByteArray} {l r : List Tok} (h1 : Nms d l) (h2 : Nms d r) : Nms d (l ++ r) := fun t ht => by
  rcases List.mem_append.1 ht with h | h
  · exact h1 t h
  · exact h2 t h
theorem nms_one {d : ByteArray} {t : Tok} (h : t.f3.size ≤ d.size) : Nms d [t] := fun u hu => by rw [List.mem_singleton.1 hu]; exact h
theorem attr_nms (d : ByteArray) (a : Int) (new : List Tok) (a' : Int) (h : attrP d a = some (new, a')) : Nms d new := by
  unfold attrP at h
  simp only at h
  repeat' split at h
  all_goals first
    | (injection h with h; injection h with h2 h3; rw [← h2]; exact nms_one (part_size d _ _); done)
    | (exact absurd h (by simp))
theorem attrs_nms (d : ByteArray) : ∀ (n : Nat) (a : Int) (acc r : List Tok) (a' : Int), Nms d acc → attrsF d n a acc = some (r, a') → Nms d r := by
  intro n
  induction n with
  | zero => intro a acc r a' _ h; cases h
  | succ n ih =>
    intro a acc r a' hacc h
    unfold attrsF at h
    split at h
    · injection h with h; injection h with h2 h3
      rw [← h2]; exact nms_app hacc (nms_one (none_size d))
    split at h
    · injection h with h; injection h with h2 h3
      rw [← h2]; exact nms_app hacc (nms_one (none_size d))
    cases hA : attrP d a with
    | none => rw [hA] at h; cases h
    | some v =>
      obtain ⟨new, p⟩ := v
      rw [hA] at h
      exact ih p (acc ++ new) r a' (nms_app hacc (attr_nms d a new p hA)) h
theorem step_nms (d : ByteArray) (a : Int) (new : List Tok) (a' : Int) (h : stepP d a = some (new, a')) : Nms d new := by
  unfold stepP at h
  split at h
  · unfold commentP at h
    simp only at h
    split at h
    · cases h
    split at h
    · injection h with h; injection h with h2 h3
      rw [← h2]; exact nms_one (none_size d)
    · cases h
  split at h
  · unfold plainP at h
    simp only at h
    split at h
    · injection h with h; injection h with h2 h3
      rw [← h2]; exact nms_one (none_size d)
    · cases h
  split at h
  · unfold closingP at h
    simp only at h
    split at h
    · cases h
    split at h
    · injection h with h; injection h with h2 h3
      rw [← h2]; exact nms_one (part_size d _ _)
    · cases h
  split at h
  · unfold tagP at h
    simp only at h
    split at h
    · cases h
    exact attrs_nms d _ _ _ _ _ (nms_one (part_size d _ _)) h
  · unfold textP at h
    simp only at h
    cases hd : dec (Lib.cut (d.data.toList.drop a.toNat) [60]).1 with
    | none => rw [hd] at h; cases h
    | some v =>
      rw [hd] at h
      injection h with h; injection h with h2 h3
      rw [← h2]; exact nms_one (none_size d)
theorem lexF_nms (s : ByteArray) (n : Nat) : ∀ (a : Int) (acc l : List Tok), Nms s acc → lexF s n a acc = some l → Nms s l := by
  induction n with
  | zero => intro a acc l _ h; cases h
  | succ n ih =>
    intro a acc l hv h
    unfold lexF at h
    split at h
    · cases hS : stepP s a with
      | none => rw [hS] at h; cases h
      | some v =>
        obtain ⟨new, a'⟩ := v
        rw [hS] at h
        exact ih a' (acc ++ new) l (nms_app hv (step_nms s a new a' hS)) h
    · obtain rfl := Option.some.inj h
      exact hv
theorem lexV_nms (s : ByteArray) : Nms s (lexV s).1 := by
  unfold lexV
  split
  · intro t ht; cases ht
  split
  · intro t ht; cases ht
  · cases h : lexO s with
    | none => intro t ht; cases ht
    | some l => exact lexF_nms s _ 0 [] l (fun t ht => by cases ht) h
def Sht (m : Nat) (l : List ByteArray) : Prop := ∀ s, s ∈ l → s.size ≤ m
theorem sht_app {m : Nat} {l : List ByteArray} {s : ByteArray} (h : Sht m l) (hs : s.size ≤ m) : Sht m (l ++ [s]) := fun u hu => by
  rcases List.mem_append.1 hu with h' | h'
  · exact h u h'
  · rw [List.mem_singleton.1 h']; exact hs
theorem sht_flush {m : Nat} {p : PS} (h : Sht m p.s) : Sht m (flushP p).s := by
  unfold flushP
  split
  · exact h
  split
  · exact h
  · exact sht_app h (Nat.zero_le _)
theorem sht_end {m : Nat} {p : PS} (h : Sht m p.s) (name : ByteArray) : Sht m (endP p name).s := by
  unfold endP
  simp only
  split
  · exact sht_flush h
  · exact sht_flush h
theorem sht_step {m : Nat} {p : PS} (h : Sht m p.s) (t : Tok) (ht : t.f3.size ≤ m) : Sht m (stepT p t).s := by
  unfold stepT
  repeat' split
  · exact h
  · exact h
  · exact sht_app (sht_flush h) ht
  · exact sht_app h ht
  · exact sht_end h _
  · exact sht_end h _
  · exact h
theorem sht_run {m : Nat} : ∀ (l : List Tok) (p : PS), Sht m p.s → (∀ t, t ∈ l → t.f3.size ≤ m) → Sht m (l.foldl stepT p).s
  | [], p, h, _ => h
  | t :: l, p, h, hl => sht_run l (stepT p t) (sht_step h t (hl t (List.mem_cons_self ..))) fun u hu => hl u (List.mem_cons_of_mem _ hu)
theorem seg_len (L : List UInt8) : ∀ (r : List Tok) (a b : Int) (x y : Bool), Seg L a x r b y → (r.length : Int) ≤ b - a := by
  intro r
  induction r with
  | nil => intro a b x y h; obtain ⟨rfl, _⟩ := h; simp
  | cons u r ih =>
    intro a b x y h
    obtain ⟨h1, h2, h3, h4, h5, h6⟩ := h
    have := ih _ _ _ _ h6
    rw [List.length_cons]; omega
theorem lexV_small (s : ByteArray) (h : (lexV s).2 = 0) : s.size ≤ 65536 := by
  unfold lexV at h
  split at h
  · exact absurd h (by decide)
  · omega
end Go.Proofs.Ytlhhhlimjajnlaa.X
end
section
set_option linter.unusedVariables false
set_option linter.unusedSimpArgs false
namespace Go.Proofs.Ytlhhhlimjajnlaa.P12
open Go Go.RowKit Go.Proofs.Ytlhhhlimjajnlaa Go.Proofs.Ytlhhhlimjajnlaa.Q Go.Proofs.YtlhhhlimjajnlaaW.PrintWords Go.Proofs.Ytlhhhlimjajnlaa.X Go.Proofs.Ytlhhhlimjajnlaa.P11
def restB (d : ByteArray) (a : Int) : ByteArray := ⟨(d.data.toList.drop a.toNat).toArray⟩
def shT (a : Int) (t : Tok) : Tok := ⟨t.f0, a + t.f1, a + t.f2, t.f3, t.f4⟩
def shR (a : Int) : Option (List Tok × Int) → Option (List Tok × Int)
  | some (l, b) => some (l.map (shT a), a + b)
  | none => none
theorem rest_list (d : ByteArray) (a : Int) : (restB d a).data.toList = d.data.toList.drop a.toNat := rfl
theorem rest_size (d : ByteArray) (a : Int) (h0 : 0 ≤ a) (h1 : a ≤ (d.size : Int)) : ((restB d a).size : Int) = d.size - a := by
  have hsz : d.data.toList.length = d.size := (Lib.size_eq d).symm
  rw [Lib.size_eq, rest_list, List.length_drop]; omega
theorem skip_ge (l : List UInt8) (i : Int) : i ≤ skipP l i := by
  unfold skipP; split <;> omega
theorem name_ge (l : List UInt8) (i : Int) : i ≤ nameEndP l i := by
  unfold nameEndP; split <;> omega
theorem drop_rest (l : List UInt8) (a i : Int) (h0 : 0 ≤ a) (hi : 0 ≤ i) : l.drop (a + i).toNat = (l.drop a.toNat).drop i.toNat := by
  rw [List.drop_drop, show (a + i).toNat = a.toNat + i.toNat from by omega]
theorem skip_rest (l : List UInt8) (a i : Int) (h0 : 0 ≤ a) (h1 : a ≤ l.length) (hi : 0 ≤ i) : skipP l (a + i) = a + skipP (l.drop a.toNat) i := by
  unfold skipP
  rw [drop_rest l a i h0 hi, List.length_drop]
  by_cases c : 0 ≤ a + i ∧ a + i < l.length
  · rw [if_pos c, if_pos (by omega)]; omega
  · rw [if_neg c, if_neg (by omega)]
theorem name_rest (l : List UInt8) (a i : Int) (h0 : 0 ≤ a) (h1 : a ≤ l.length) (hi : 0 ≤ i) : nameEndP l (a + i) = a + nameEndP (l.drop a.toNat) i := by
  unfold nameEndP
  rw [drop_rest l a i h0 hi, List.length_drop]
  by_cases c : 0 ≤ a + i ∧ a + i < l.length
  · rw [if_pos c, if_pos (by omega)]; omega
  · rw [if_neg c, if_neg (by omega)]
theorem stands_rest (d : ByteArray) (a i : Int) (s : ByteArray) (h0 : 0 ≤ a) (hi : 0 ≤ i) : standsB d (a + i) s = standsB (restB d a) i s := by
  unfold standsB
  rw [drop_rest _ a i h0 hi, rest_list]
theorem part_rest (d : ByteArray) (a i j : Int) (h0 : 0 ≤ a) (hi : 0 ≤ i) (hj : 0 ≤ j) : partB d (a + i) (a + j) = partB (restB d a) i j := by
  unfold partB
  apply ByteArray.ext; apply Array.ext'
  rw [Lib.extract_data, Lib.extract_data, drop_rest _ a i h0 hi, rest_list, show (a + j).toNat - (a + i).toNat = j.toNat - i.toNat from by omega]
theorem attr_rest (d : ByteArray) (a i : Int) (h0 : 0 ≤ a) (h1 : a ≤ (d.size : Int)) (hi : 0 ≤ i) : attrP d (a + i) = shR a (attrP (restB d a) i) := by
  have hsz : d.data.toList.length = d.size := (Lib.size_eq d).symm
  unfold attrP
  rw [rest_list]
  obtain ⟨F, hF⟩ : ∃ F, skipP (d.data.toList.drop a.toNat) i = F := ⟨_, rfl⟩
  obtain ⟨E, hE⟩ : ∃ E, nameEndP (d.data.toList.drop a.toNat) F = E := ⟨_, rfl⟩
  obtain ⟨Q, hQ⟩ : ∃ Q, skipP (d.data.toList.drop a.toNat) E = Q := ⟨_, rfl⟩
  obtain ⟨O, hO⟩ : ∃ O, skipP (d.data.toList.drop a.toNat) (Q + 1) = O := ⟨_, rfl⟩
  have g1 := skip_ge (d.data.toList.drop a.toNat) i
  have g2 := name_ge (d.data.toList.drop a.toNat) F
  have g3 := skip_ge (d.data.toList.drop a.toNat) E
  have g4 := skip_ge (d.data.toList.drop a.toNat) (Q + 1)
  rw [hF] at g1
  rw [hE] at g2
  rw [hQ] at g3
  rw [hO] at g4
  have e1 : skipP d.data.toList (a + i) = a + F := by rw [skip_rest _ _ _ h0 (by omega) hi, hF]
  have e2 : nameEndP d.data.toList (a + F) = a + E := by rw [name_rest _ _ _ h0 (by omega) (by omega), hE]
  have e3 : skipP d.data.toList (a + E) = a + Q := by rw [skip_rest _ _ _ h0 (by omega) (by omega), hQ]
  have e4 : skipP d.data.toList (a + Q + 1) = a + O := by rw [show a + Q + 1 = a + (Q + 1) from by omega, skip_rest _ _ _ h0 (by omega) (by omega), hO]
  have e5 : partB d (a + O) (a + O + 1) = partB (restB d a) O (O + 1) := by rw [show a + O + 1 = a + (O + 1) from by omega, part_rest _ _ _ _ h0 (by omega) (by omega)]
  have e6 : d.data.toList.drop (a + O + 1).toNat = (d.data.toList.drop a.toNat).drop (O + 1).toNat := by rw [show a + O + 1 = a + (O + 1) from by omega, drop_rest _ _ _ h0 (by omega)]
  have e7 : partB d (a + F) (a + E) = partB (restB d a) F E := part_rest _ _ _ _ h0 (by omega) (by omega)
  have e8 := fun s => stands_rest d a Q s h0 (by omega)
  have e9 := fun s => stands_rest d a O s h0 (by omega)
  simp only [hF, hE, hQ, hO, e1, e2, e3, e4, e5, e6, e7, e8, e9]
  obtain ⟨c, hc⟩ : ∃ c, Lib.cut ((d.data.toList.drop a.toNat).drop (O + 1).toNat) (partB (restB d a) O (O + 1)).data.toList = c := ⟨_, rfl⟩
  rw [hc]
  by_cases c1 : F = i
  · rw [if_pos c1, if_pos (by omega)]; rfl
  rw [if_neg c1, if_neg (by omega)]
  by_cases c2 : E = F
  · rw [if_pos c2, if_pos (by omega)]; rfl
  rw [if_neg c2, if_neg (by omega)]
  by_cases c3 : standsB (restB d a) Q ⟨#[61]⟩ = false
  · rw [if_pos c3, if_pos c3]; rfl
  rw [if_neg c3, if_neg c3]
  by_cases c4 : standsB (restB d a) O ⟨#[34]⟩ = false ∧ standsB (restB d a) O ⟨#[39]⟩ = false
  · rw [if_pos c4, if_pos c4]; rfl
  rw [if_neg c4, if_neg c4]
  by_cases c5 : c.2.2 = false
  · rw [if_pos c5, if_pos c5]; rfl
  rw [if_neg c5, if_neg c5]
  by_cases c6 : 0 ≤ Lib.indexByte c.1 60
  · rw [if_pos c6, if_pos c6]; rfl
  rw [if_neg c6, if_neg c6]
  cases dec c.1 with
  | none => rfl
  | some v =>
    show some ([(⟨2, a + F, a + O + (c.1.length : Int) + 2, _, _⟩ : Tok)], a + O + (c.1.length : Int) + 2) = some ([(⟨2, a + F, a + (O + (c.1.length : Int) + 2), _, _⟩ : Tok)], a + (O + (c.1.length : Int) + 2))
    rw [show a + O + (c.1.length : Int) + 2 = a + (O + (c.1.length : Int) + 2) from by omega]
theorem attrs_rest (d : ByteArray) (a : Int) (h0 : 0 ≤ a) (h1 : a ≤ (d.size : Int)) : ∀ (n : Nat) (i : Int) (acc : List Tok), 0 ≤ i → i ≤ ((restB d a).size : Int) → attrsF d n (a + i) (acc.map (shT a)) = shR a (attrsF (restB d a) n i acc) := by
  intro n
  have hsz : d.data.toList.length = d.size := (Lib.size_eq d).symm
  induction n with
  | zero => intro i acc _ _; rfl
  | succ n ih =>
    intro i acc hi hi1
    unfold attrsF
    rw [rest_list, skip_rest _ _ _ h0 (by omega) hi]
    have g1 := skip_ge (d.data.toList.drop a.toNat) i
    obtain ⟨I, hI⟩ : ∃ I, skipP (d.data.toList.drop a.toNat) i = I := ⟨_, rfl⟩
    rw [hI] at g1 ⊢
    rw [stands_rest _ _ _ _ h0 (by omega), stands_rest _ _ _ _ h0 (by omega), attr_rest d a i h0 h1 hi]
    by_cases c1 : standsB (restB d a) I ⟨#[62]⟩ = true
    · rw [if_pos c1, if_pos c1]
      show some _ = some ((acc ++ _).map (shT a), _)
      rw [List.map_append, show a + I + 1 = a + (I + 1) from by omega]
      rfl
    rw [if_neg c1, if_neg c1]
    by_cases c2 : standsB (restB d a) I ⟨#[47, 62]⟩ = true
    · rw [if_pos c2, if_pos c2]
      show some _ = some ((acc ++ _).map (shT a), _)
      rw [List.map_append, show a + I + 2 = a + (I + 2) from by omega]
      rfl
    rw [if_neg c2, if_neg c2]
    cases hA : attrP (restB d a) i with
    | none => rfl
    | some v =>
      obtain ⟨new, p⟩ := v
      have hr := attr_room (restB d a) i hi hi1 new p hA
      show attrsF d n (a + p) (acc.map (shT a) ++ new.map (shT a)) = _
      rw [← List.map_append]
      exact ih p (acc ++ new) (by omega) hr.2.1
theorem attrs_fuel (d : ByteArray) : ∀ (n m : Nat) (i : Int) (acc : List Tok), 0 ≤ i → i ≤ (d.size : Int) → (d.size : Int) - i < n → (d.size : Int) - i < m → attrsF d n i acc = attrsF d m i acc := by
  intro n
  induction n with
  | zero => intro m i acc _ _ _ _; omega
  | succ n ih =>
    intro m i acc h0 h1 hn hm
    obtain ⟨m, rfl⟩ : ∃ j, m = j + 1 := ⟨m - 1, by omega⟩
    unfold attrsF
    cases hA : attrP d i with
    | none => rfl
    | some v =>
      obtain ⟨new, p⟩ := v
      have hr := attr_room d i h0 h1 new p hA
      simp only
      rw [ih m p (acc ++ new) (by omega) hr.2.1 (by omega) (by omega)]
theorem tag_rest (d : ByteArray) (a i : Int) (h0 : 0 ≤ a) (h1 : a ≤ (d.size : Int)) (hi : 0 ≤ i) (hi1 : i < ((restB d a).size : Int)) : tagP d (a + i) = shR a (tagP (restB d a) i) := by
  have hsz : d.data.toList.length = d.size := (Lib.size_eq d).symm
  have hrs := rest_size d a h0 h1
  have hE1 := nameEndP_in (restB d a).data.toList (i + 1) (by omega) (by rw [← Lib.size_eq]; omega)
  rw [← Lib.size_eq] at hE1
  unfold tagP
  rw [rest_list] at hE1 ⊢
  obtain ⟨E, hE⟩ : ∃ E, nameEndP (d.data.toList.drop a.toNat) (i + 1) = E := ⟨_, rfl⟩
  have e1 : nameEndP d.data.toList (a + i + 1) = a + E := by rw [show a + i + 1 = a + (i + 1) from by omega, name_rest _ _ _ h0 (by omega) (by omega), hE]
  rw [hE] at hE1
  have e2 : partB d (a + i + 1) (a + E) = partB (restB d a) (i + 1) E := by rw [show a + i + 1 = a + (i + 1) from by omega, part_rest _ _ _ _ h0 (by omega) (by omega)]
  simp only [hE, e1, e2]
  by_cases c : E = i + 1
  · rw [if_pos c, if_pos (by omega)]; rfl
  rw [if_neg c, if_neg (by omega)]
  have := attrs_rest d a h0 h1 ((restB d a).size + 1) E [⟨1, i, E, partB (restB d a) (i + 1) E, ⟨#[]⟩⟩] (by omega) hE1.2
  rw [← this]
  exact attrs_fuel d _ _ _ _ (by omega) (by omega) (by omega) (by omega)
theorem step_rest (d : ByteArray) (a i : Int) (h0 : 0 ≤ a) (h1 : a ≤ (d.size : Int)) (hi : 0 ≤ i) (hi1 : i < ((restB d a).size : Int)) : stepP d (a + i) = shR a (stepP (restB d a) i) := by
  have hsz : d.data.toList.length = d.size := (Lib.size_eq d).symm
  unfold stepP
  rw [stands_rest _ _ _ _ h0 hi, stands_rest _ _ _ _ h0 hi, stands_rest _ _ _ _ h0 hi, stands_rest _ _ _ _ h0 hi]
  split
  · unfold commentP
    rw [rest_list, show (a + i).toNat + 4 = (a + (i + 4)).toNat from by omega, drop_rest _ _ _ h0 (by omega), show (i + 4).toNat = i.toNat + 4 from by omega]
    obtain ⟨j, hj⟩ : ∃ j, Lib.index ((d.data.toList.drop a.toNat).drop (i.toNat + 4)) [45, 45] = j := ⟨_, rfl⟩
    simp only [hj]
    by_cases c : j < 0
    · rw [if_pos c, if_pos c]; rfl
    rw [if_neg c, if_neg c]
    by_cases c' : Lib.hasPrefix (((d.data.toList.drop a.toNat).drop (i.toNat + 4)).drop j.toNat) [45, 45, 62] = true
    · rw [if_pos c', if_pos c', show a + i + 4 + j + 3 = a + (i + 4 + j + 3) from by omega]; rfl
    · rw [if_neg c', if_neg c']; rfl
  split
  · unfold plainP
    rw [rest_list, show (a + i).toNat + 9 = (a + (i + 9)).toNat from by omega, drop_rest _ _ _ h0 (by omega), show (i + 9).toNat = i.toNat + 9 from by omega]
    obtain ⟨c, hc⟩ : ∃ c, Lib.cut ((d.data.toList.drop a.toNat).drop (i.toNat + 9)) [93, 93, 62] = c := ⟨_, rfl⟩
    simp only [hc]
    by_cases c5 : c.2.2 = true
    · rw [if_pos c5, if_pos c5, show a + i + 9 + (c.1.length : Int) + 3 = a + (i + 9 + (c.1.length : Int) + 3) from by omega]; rfl
    · rw [if_neg c5, if_neg c5]; rfl
  split
  · unfold closingP
    rw [rest_list]
    obtain ⟨E, hE⟩ : ∃ E, nameEndP (d.data.toList.drop a.toNat) (i + 2) = E := ⟨_, rfl⟩
    obtain ⟨T, hT⟩ : ∃ T, skipP (d.data.toList.drop a.toNat) E = T := ⟨_, rfl⟩
    have g1 := name_ge (d.data.toList.drop a.toNat) (i + 2)
    have g2 := skip_ge (d.data.toList.drop a.toNat) E
    rw [hE] at g1
    rw [hT] at g2
    have e1 : nameEndP d.data.toList (a + i + 2) = a + E := by rw [show a + i + 2 = a + (i + 2) from by omega, name_rest _ _ _ h0 (by omega) (by omega), hE]
    have e2 : skipP d.data.toList (a + E) = a + T := by rw [skip_rest _ _ _ h0 (by omega) (by omega), hT]
    have e3 : partB d (a + i + 2) (a + E) = partB (restB d a) (i + 2) E := by rw [show a + i + 2 = a + (i + 2) from by omega, part_rest _ _ _ _ h0 (by omega) (by omega)]
    simp only [hE, hT, e1, e2, e3, stands_rest d a T _ h0 (by omega)]
    by_cases c : E = i + 2
    · rw [if_pos c, if_pos (by omega)]; rfl
    rw [if_neg c, if_neg (by omega)]
    by_cases c' : standsB (restB d a) T ⟨#[62]⟩ = true
    · rw [if_pos c', if_pos c', show a + T + 1 = a + (T + 1) from by omega]; rfl
    · rw [if_neg c', if_neg c']; rfl
  split
  · exact tag_rest d a i h0 h1 hi hi1
  · unfold textP
    rw [rest_list, drop_rest _ _ _ h0 hi]
    obtain ⟨b, hb⟩ : ∃ b, (Lib.cut ((d.data.toList.drop a.toNat).drop i.toNat) [60]).1 = b := ⟨_, rfl⟩
    simp only [hb]
    cases dec b with
    | none => rfl
    | some v =>
      show some ([(⟨6, a + i, a + i + (b.length : Int), _, _⟩ : Tok)], a + i + (b.length : Int)) = some ([(⟨6, a + i, a + (i + (b.length : Int)), _, _⟩ : Tok)], a + (i + (b.length : Int)))
      rw [show a + i + (b.length : Int) = a + (i + (b.length : Int)) from by omega]
theorem lexF_fuel (d : ByteArray) : ∀ (n m : Nat) (i : Int) (acc : List Tok), 0 ≤ i → i ≤ (d.size : Int) → (d.size : Int) - i < n → (d.size : Int) - i < m → lexF d n i acc = lexF d m i acc := by
  intro n
  induction n with
  | zero => intro m i acc _ _ _ _; omega
  | succ n ih =>
    intro m i acc h0 h1 hn hm
    obtain ⟨m, rfl⟩ : ∃ j, m = j + 1 := ⟨m - 1, by omega⟩
    unfold lexF
    by_cases hlt : i < (d.size : Int)
    · rw [if_pos hlt, if_pos hlt]
      cases hA : stepP d i with
      | none => rfl
      | some v =>
        obtain ⟨new, p⟩ := v
        have hr := step_room d i h0 hlt new p hA
        simp only
        rw [ih m p (acc ++ new) (by omega) hr.2.1 (by omega) (by omega)]
    · rw [if_neg hlt, if_neg hlt]
theorem lexF_rest (d : ByteArray) (a : Int) (h0 : 0 ≤ a) (h1 : a ≤ (d.size : Int)) (pre : List Tok) : ∀ (n : Nat) (i : Int) (acc : List Tok), 0 ≤ i → i ≤ ((restB d a).size : Int) → lexF d n (a + i) (pre ++ acc.map (shT a)) = (lexF (restB d a) n i acc).map fun l => pre ++ l.map (shT a) := by
  intro n
  have hrs := rest_size d a h0 h1
  induction n with
  | zero => intro i acc _ _; rfl
  | succ n ih =>
    intro i acc hi hi1
    unfold lexF
    by_cases hlt : i < ((restB d a).size : Int)
    · rw [if_pos hlt, if_pos (by omega), step_rest d a i h0 h1 hi hlt]
      cases hA : stepP (restB d a) i with
      | none => rfl
      | some v =>
        obtain ⟨new, p⟩ := v
        have hr := step_room (restB d a) i hi hlt new p hA
        show lexF d n (a + p) (pre ++ acc.map (shT a) ++ new.map (shT a)) = _
        rw [List.append_assoc, ← List.map_append]
        exact ih p (acc ++ new) (by omega) hr.2.1
    · rw [if_neg hlt, if_neg (by omega)]; rfl
theorem index_append (l m s : List UInt8) (h : 0 ≤ Lib.index l s) : Lib.index (l ++ m) s = Lib.index l s := by
  induction l with
  | nil =>
    cases s with
    | nil => rw [Lib.index_empty, Lib.index_empty]
    | cons c t => exact absurd h (by show ¬ (0 : Int) ≤ -1; omega)
  | cons b l ih =>
    rw [List.cons_append]
    unfold Lib.index at h ⊢
    by_cases c1 : s.isPrefixOf (b :: l) = true
    · rw [if_pos c1]
      obtain ⟨t, ht⟩ := List.isPrefixOf_iff_prefix.1 c1
      rw [if_pos (List.isPrefixOf_iff_prefix.2 ⟨t ++ m, by rw [← List.append_assoc, ht]; rfl⟩)]
    · rw [if_neg c1] at h ⊢
      have hge : 0 ≤ Lib.index l s := by
        by_cases c2 : (Lib.index l s == -1) = true
        · rw [if_pos c2] at h; exact absurd h (by decide)
        · rw [if_neg c2] at h
          have hne : ¬ Lib.index l s = -1 := by simpa using c2
          rcases Lib.index_spec l s with ⟨h1, _⟩ | ⟨i, h1, _⟩
          · exact absurd h1 hne
          · omega
      rw [ih hge]
      have hroom := Lib.index_room l s hge
      have hnp : ¬ s.isPrefixOf (b :: (l ++ m)) = true := by
        intro hp
        apply c1
        obtain ⟨t, ht⟩ := List.isPrefixOf_iff_prefix.1 hp
        rw [← List.cons_append] at ht
        exact List.isPrefixOf_iff_prefix.2 (List.prefix_of_prefix_length_le ⟨t, ht⟩ ⟨m, rfl⟩ (by simp only [List.length_cons]; omega))
      rw [if_neg hnp]
theorem cut_append (l m s : List UInt8) (h : (Lib.cut l s).2.2 = true) : (Lib.cut (l ++ m) s).1 = (Lib.cut l s).1 ∧ (Lib.cut (l ++ m) s).2.2 = true := by
  unfold Lib.cut at h ⊢
  by_cases c : 0 ≤ Lib.index l s
  · have hroom := Lib.index_room l s c
    rw [index_append l m s c, if_pos c, if_pos c]
    exact ⟨by show (l ++ m).take _ = l.take _; rw [List.take_append_of_le_length (by omega)], rfl⟩
  · rw [if_neg c] at h; cases h
theorem skip_append (l m : List UInt8) (i : Int) (h0 : 0 ≤ i) (h : skipP l i < l.length) : skipP (l ++ m) i = skipP l i := by
  have g := skip_ge l i
  have hlt : i.toNat < l.length := by omega
  unfold skipP at h ⊢
  rw [if_pos (by omega)] at h
  rw [if_pos (by rw [List.length_append]; omega), if_pos (by omega), List.drop_append_of_le_length (by omega)]
  have : ∀ (u v : List UInt8), (u.takeWhile spaceB).length < u.length → (u ++ v).takeWhile spaceB = u.takeWhile spaceB := by
    intro u v
    induction u with
    | nil => intro h; exact absurd h (by simp)
    | cons c u ih =>
      intro h
      rw [List.cons_append, List.takeWhile_cons, List.takeWhile_cons]
      cases hc : spaceB c with
      | false => rfl
      | true =>
        rw [List.takeWhile_cons, hc] at h
        simp only [if_true, List.length_cons] at h ⊢
        rw [ih (by omega)]
  rw [this _ _ (by rw [List.length_drop]; omega)]
theorem nameLen_cons (c : UInt8) (t : List UInt8) : nameLen (c :: t) = if nameB c = true then 1 + (t.takeWhile fun d => nameB d || moreB d).length else 0 := rfl
theorem name_append (l m : List UInt8) (i : Int) (h0 : 0 ≤ i) (h : nameEndP l i < l.length) : nameEndP (l ++ m) i = nameEndP l i := by
  have g := name_ge l i
  have hlt : i.toNat < l.length := by omega
  unfold nameEndP at h ⊢
  rw [if_pos (by omega)] at h
  rw [if_pos (by rw [List.length_append]; omega), if_pos (by omega), List.drop_append_of_le_length (by omega)]
  have : ∀ (p : UInt8 → Bool) (u v : List UInt8), (u.takeWhile p).length < u.length → (u ++ v).takeWhile p = u.takeWhile p := by
    intro p u v
    induction u with
    | nil => intro h; exact absurd h (by simp)
    | cons c u ih =>
      intro h
      rw [List.cons_append, List.takeWhile_cons, List.takeWhile_cons]
      cases hc : p c with
      | false => rfl
      | true =>
        rw [List.takeWhile_cons, hc] at h
        simp only [if_true, List.length_cons] at h ⊢
        rw [ih (by omega)]
  have hn : ∀ (u v : List UInt8), nameLen u < u.length → nameLen (u ++ v) = nameLen u := by
    intro u v h
    cases u with
    | nil => exact absurd h (by simp [nameLen])
    | cons c u =>
      rw [List.cons_append, nameLen_cons, nameLen_cons]
      rw [nameLen_cons] at h
      cases hc : nameB c with
      | false => rfl
      | true =>
        rw [hc] at h
        simp only [if_true, List.length_cons] at h ⊢
        rw [this _ _ _ (by omega)]
  rw [hn _ _ (by rw [List.length_drop]; omega)]
theorem app_list (d e : ByteArray) : (d ++ e).data.toList = d.data.toList ++ e.data.toList := by simp
theorem app_size (d e : ByteArray) : (d ++ e).size = d.size + e.size := by rw [Lib.size_eq, app_list, List.length_append, ← Lib.size_eq, ← Lib.size_eq]
theorem stands_app (d e : ByteArray) (i : Int) (s : ByteArray) (h : standsB d i s = true) : standsB (d ++ e) i s = true := by
  unfold standsB Lib.hasPrefix at h ⊢
  obtain ⟨t, ht⟩ := List.isPrefixOf_iff_prefix.1 h
  refine List.isPrefixOf_iff_prefix.2 ?_
  by_cases c : i.toNat ≤ d.data.toList.length
  · rw [app_list, List.drop_append_of_le_length c]
    exact ⟨t ++ e.data.toList, by rw [← List.append_assoc, ht]⟩
  · rw [List.drop_eq_nil_of_le (by omega)] at ht
    have := List.append_eq_nil_iff.1 ht
    rw [this.1]; exact List.nil_prefix
theorem part_app (d e : ByteArray) (i j : Int) (h : j ≤ (d.size : Int)) (hi : 0 ≤ i) : partB (d ++ e) i j = partB d i j := by
  have hsz : d.data.toList.length = d.size := (Lib.size_eq d).symm
  unfold partB
  apply ByteArray.ext; apply Array.ext'
  rw [Lib.extract_data, Lib.extract_data, app_list]
  by_cases c : i.toNat ≤ d.data.toList.length
  · rw [List.drop_append_of_le_length c, List.take_append_of_le_length (by rw [List.length_drop]; omega)]
  · rw [show j.toNat - i.toNat = 0 from by omega, List.take_zero, List.take_zero]
theorem stands_at (d e : ByteArray) (i : Int) (c : UInt8) (t s : List UInt8) (h : d.data.toList.drop i.toNat = c :: t) : standsB (d ++ e) i ⟨s.toArray⟩ = s.isPrefixOf (c :: (t ++ e.data.toList)) := by
  have hlen := congrArg List.length h
  rw [List.length_drop, List.length_cons] at hlen
  unfold standsB Lib.hasPrefix
  rw [app_list, List.drop_append_of_le_length (by omega), h]
  rfl
theorem stands_in (d : ByteArray) (i : Int) (c : UInt8) (t s : List UInt8) (h : d.data.toList.drop i.toNat = c :: t) : standsB d i ⟨s.toArray⟩ = s.isPrefixOf (c :: t) := by
  unfold standsB Lib.hasPrefix
  rw [h]
theorem attr_app (d e : ByteArray) (a : Int) (h0 : 0 ≤ a) (h1 : a ≤ (d.size : Int)) (new : List Tok) (a' : Int) (h : attrP d a = some (new, a')) : attrP (d ++ e) a = some (new, a') ∧ skipP (d ++ e).data.toList a = skipP d.data.toList a ∧ ∃ c t, d.data.toList.drop (skipP d.data.toList a).toNat = c :: t ∧ nameB c = true := by
  have hroom := attr_room d a h0 h1 new a' h
  have hsz : d.data.toList.length = d.size := (Lib.size_eq d).symm
  rw [app_list]
  have hdup := h
  unfold attrP at h
  obtain ⟨F, hF⟩ : ∃ F, skipP d.data.toList a = F := ⟨_, rfl⟩
  obtain ⟨E, hE⟩ : ∃ E, nameEndP d.data.toList F = E := ⟨_, rfl⟩
  obtain ⟨Q, hQ⟩ : ∃ Q, skipP d.data.toList E = Q := ⟨_, rfl⟩
  obtain ⟨O, hO⟩ : ∃ O, skipP d.data.toList (Q + 1) = O := ⟨_, rfl⟩
  simp only [hF, hE, hQ, hO] at h
  have hF1 := skipP_in d.data.toList a (by omega) (by omega)
  rw [hF] at hF1
  have hE1 := nameEndP_in d.data.toList F (by omega) (by omega)
  rw [hE] at hE1
  have hQ1 := skipP_in d.data.toList E (by omega) (by omega)
  rw [hQ] at hQ1
  by_cases c1 : F = a
  · rw [if_pos c1] at h; cases h
  rw [if_neg c1] at h
  by_cases c2 : E = F
  · rw [if_pos c2] at h; cases h
  rw [if_neg c2] at h
  by_cases c3 : standsB d Q ⟨#[61]⟩ = false
  · rw [if_pos c3] at h; cases h
  rw [if_neg c3] at h
  have hr1 := stands_room d Q 61 (by omega) (by simpa using c3)
  have hO1 := skipP_in d.data.toList (Q + 1) (by omega) (by omega)
  rw [hO] at hO1
  by_cases c4 : standsB d O ⟨#[34]⟩ = false ∧ standsB d O ⟨#[39]⟩ = false
  · rw [if_pos c4] at h; cases h
  rw [if_neg c4] at h
  have hr2 : O < (d.size : Int) := by
    by_cases c : standsB d O ⟨#[34]⟩ = true
    · exact stands_room d O 34 (by omega) c
    · by_cases c' : standsB d O ⟨#[39]⟩ = true
      · exact stands_room d O 39 (by omega) c'
      · exact absurd ⟨by simpa using c, by simpa using c'⟩ c4
  have e1 : skipP (d.data.toList ++ e.data.toList) a = F := by rw [skip_append _ _ _ h0 (by omega), hF]
  have e2 : nameEndP (d.data.toList ++ e.data.toList) F = E := by rw [name_append _ _ _ (by omega) (by omega), hE]
  have e3 : skipP (d.data.toList ++ e.data.toList) E = Q := by rw [skip_append _ _ _ (by omega) (by omega), hQ]
  have e4 : skipP (d.data.toList ++ e.data.toList) (Q + 1) = O := by rw [skip_append _ _ _ (by omega) (by omega), hO]
  have e5 : partB (d ++ e) O (O + 1) = partB d O (O + 1) := part_app _ _ _ _ (by omega) (by omega)
  have e6 : partB (d ++ e) F E = partB d F E := part_app _ _ _ _ (by omega) (by omega)
  have e7 : (d.data.toList ++ e.data.toList).drop (O + 1).toNat = d.data.toList.drop (O + 1).toNat ++ e.data.toList := List.drop_append_of_le_length (by omega)
  refine ⟨?_, by rw [e1, hF], ?_⟩
  · unfold attrP
    rw [app_list]
    simp only [e1, e2, e3, e4, e5, e6, e7]
    by_cases c5 : (Lib.cut (d.data.toList.drop (O + 1).toNat) (partB d O (O + 1)).data.toList).2.2 = false
    · rw [if_pos c5] at h; cases h
    obtain ⟨f1, f2⟩ := cut_append _ e.data.toList _ (by simpa using c5)
    have c3' := stands_app d e Q _ (by simpa using c3)
    have c4' : ¬ (standsB (d ++ e) O ⟨#[34]⟩ = false ∧ standsB (d ++ e) O ⟨#[39]⟩ = false) := by
      intro ⟨g1, g2⟩
      apply c4
      constructor
      · cases hx : standsB d O ⟨#[34]⟩ with
        | false => rfl
        | true => rw [stands_app d e O _ hx] at g1; cases g1
      · cases hx : standsB d O ⟨#[39]⟩ with
        | false => rfl
        | true => rw [stands_app d e O _ hx] at g2; cases g2
    rw [if_neg c5] at h
    rw [f1, f2, if_neg c1, if_neg c2, if_neg (by rw [c3']; decide), if_neg c4', if_neg (by decide)]
    exact h
  · have hlt : F.toNat < d.data.toList.length := by omega
    have hcons := List.drop_eq_getElem_cons hlt
    rw [hF]
    refine ⟨_, _, hcons, ?_⟩
    unfold nameEndP at hE
    rw [if_pos (by omega), hcons, nameLen_cons] at hE
    by_cases cb : nameB d.data.toList[F.toNat] = true
    · exact cb
    · rw [if_neg cb] at hE; omega
theorem attrs_app (d e : ByteArray) : ∀ (n : Nat) (a : Int) (acc r : List Tok) (a' : Int), 0 ≤ a → a ≤ (d.size : Int) → attrsF d n a acc = some (r, a') → attrsF (d ++ e) n a acc = some (r, a') := by
  intro n
  have hsz : d.data.toList.length = d.size := (Lib.size_eq d).symm
  induction n with
  | zero => intro a acc r a' _ _ h; cases h
  | succ n ih =>
    intro a acc r a' h0 h1 h
    unfold attrsF at h ⊢
    by_cases c1 : standsB d (skipP d.data.toList a) ⟨#[62]⟩ = true
    · rw [if_pos c1] at h
      have hr := stands_room d _ 62 (by have := skip_ge d.data.toList a; omega) c1
      rw [app_list, skip_append _ _ _ h0 (by omega), if_pos (stands_app d e _ _ c1)]
      exact h
    rw [if_neg c1] at h
    by_cases c2 : standsB d (skipP d.data.toList a) ⟨#[47, 62]⟩ = true
    · rw [if_pos c2] at h
      have hr := stands_room2 d _ ⟨#[47, 62]⟩ (by have := skip_ge d.data.toList a; omega) (by decide) c2
      rw [show ((⟨#[47, 62]⟩ : ByteArray).size : Int) = 2 from rfl] at hr
      have h47 : ¬ standsB (d ++ e) (skipP d.data.toList a) ⟨#[62]⟩ = true := by
        obtain ⟨t, ht⟩ := standsB_take d _ _ c2
        have := stands_at d e (skipP d.data.toList a) 47 (62 :: t) [62] ht
        rw [show (⟨#[62]⟩ : ByteArray) = ⟨([62] : List UInt8).toArray⟩ from rfl, this]
        simp [List.isPrefixOf]
      rw [app_list, skip_append _ _ _ h0 (by omega), if_neg h47, if_pos (stands_app d e _ _ c2)]
      exact h
    rw [if_neg c2] at h
    cases hA : attrP d a with
    | none => rw [hA] at h; cases h
    | some v =>
      obtain ⟨new, p⟩ := v
      rw [hA] at h
      have hr := attr_room d a (by omega) h1 new p hA
      obtain ⟨f1, f2, c, t, f3, f4⟩ := attr_app d e a h0 h1 new p hA
      have g1 : ¬ standsB (d ++ e) (skipP d.data.toList a) ⟨#[62]⟩ = true := by
        rw [show (⟨#[62]⟩ : ByteArray) = ⟨([62] : List UInt8).toArray⟩ from rfl, stands_at d e _ c t [62] f3]
        intro hp
        simp only [List.isPrefixOf, Bool.and_eq_true, beq_iff_eq] at hp
        rw [← hp.1] at f4
        exact absurd f4 (by decide)
      have g2 : ¬ standsB (d ++ e) (skipP d.data.toList a) ⟨#[47, 62]⟩ = true := by
        rw [show (⟨#[47, 62]⟩ : ByteArray) = ⟨([47, 62] : List UInt8).toArray⟩ from rfl, stands_at d e _ c t [47, 62] f3]
        intro hp
        simp only [List.isPrefixOf, Bool.and_eq_true, beq_iff_eq] at hp
        rw [← hp.1] at f4
        exact absurd f4 (by decide)
      rw [f2, if_neg g1, if_neg g2, f1]
      exact ih p (acc ++ new) r a' (by omega) hr.2.1 h
theorem tag_app (d e : ByteArray) (a : Int) (h0 : 0 ≤ a) (h1 : a < (d.size : Int)) (new : List Tok) (a' : Int) (h : tagP d a = some (new, a')) : tagP (d ++ e) a = some (new, a') := by
  have hsz : d.data.toList.length = d.size := (Lib.size_eq d).symm
  unfold tagP at h ⊢
  obtain ⟨E, hE⟩ : ∃ E, nameEndP d.data.toList (a + 1) = E := ⟨_, rfl⟩
  have hE1 := nameEndP_in d.data.toList (a + 1) (by omega) (by omega)
  rw [hE] at hE1
  simp only [hE] at h
  by_cases c : E = a + 1
  · rw [if_pos c] at h; cases h
  rw [if_neg c] at h
  have hElt : E < (d.size : Int) := by
    apply Classical.byContradiction
    intro hge
    have hEe : E = (d.size : Int) := by omega
    unfold attrsF at h
    have hs : skipP d.data.toList E = E := by unfold skipP; rw [if_neg (by omega)]
    rw [hs] at h
    have hn : ∀ s : ByteArray, 0 < s.size → standsB d E s = false := by
      intro s hs
      cases hx : standsB d E s with
      | false => rfl
      | true => have := stands_room2 d E s (by omega) hs hx; omega
    rw [if_neg (by rw [hn _ (by decide)]; decide), if_neg (by rw [hn _ (by decide)]; decide)] at h
    have : attrP d E = none := by
      unfold attrP
      simp only [hs, if_true]
    rw [this] at h; cases h
  have hEa : nameEndP (d ++ e).data.toList (a + 1) = E := by rw [app_list, name_append _ _ _ (by omega) (by omega), hE]
  simp only [hEa]
  rw [if_neg c, part_app _ _ _ _ (by omega) (by omega)]
  have := attrs_app d e _ _ _ _ _ (by omega) (by omega) h
  rw [← this]
  have hbig : ∀ (k : Nat) (n : Nat) (a : Int) (acc : List Tok) (v : List Tok × Int), attrsF (d ++ e) n a acc = some v → attrsF (d ++ e) (n + k) a acc = some v := by
    intro k n
    induction n with
    | zero => intro a acc v h; cases h
    | succ n ih =>
      intro a acc v h
      rw [show n + 1 + k = n + k + 1 from by omega]
      unfold attrsF at h ⊢
      split
      · rename_i c; rw [if_pos c] at h; exact h
      · rename_i c
        rw [if_neg c] at h
        split
        · rename_i c; rw [if_pos c] at h; exact h
        · rename_i c
          rw [if_neg c] at h
          cases hA : attrP (d ++ e) a with
          | none => rw [hA] at h; cases h
          | some u => rw [hA] at h; exact ih _ _ _ h
  rw [this]
  have := hbig e.size _ _ _ _ this
  rw [app_size, show d.size + e.size + 1 = d.size + 1 + e.size from by omega]
  exact this
theorem step_app (d e : ByteArray) (a : Int) (h0 : 0 ≤ a) (h1 : a < (d.size : Int)) (new : List Tok) (a' : Int) (h : stepP d a = some (new, a')) (h6 : a' = (d.size : Int) → (∃ r, e.data.toList = 60 :: r) ∨ ∀ t, new.getLast? = some t → ¬ t.f0 = 6) : stepP (d ++ e) a = some (new, a') := by
  have hsz : d.data.toList.length = d.size := (Lib.size_eq d).symm
  have hlt : a.toNat < d.data.toList.length := by omega
  obtain ⟨c, t, hcons⟩ : ∃ c t, d.data.toList.drop a.toNat = c :: t := ⟨_, _, List.drop_eq_getElem_cons hlt⟩
  have s1 := fun s => stands_in d a c t s hcons
  have s2 := fun s => stands_at d e a c t s hcons
  have hdrop : (d ++ e).data.toList.drop a.toNat = c :: (t ++ e.data.toList) := by
    rw [app_list, List.drop_append_of_le_length (by omega), hcons]; rfl
  unfold stepP at h ⊢
  rw [show (⟨#[60, 33, 45, 45]⟩ : ByteArray) = ⟨([60, 33, 45, 45] : List UInt8).toArray⟩ from rfl, show (⟨#[60, 33, 91, 67, 68, 65, 84, 65, 91]⟩ : ByteArray) = ⟨([60, 33, 91, 67, 68, 65, 84, 65, 91] : List UInt8).toArray⟩ from rfl,
    show (⟨#[60, 47]⟩ : ByteArray) = ⟨([60, 47] : List UInt8).toArray⟩ from rfl, show (⟨#[60]⟩ : ByteArray) = ⟨([60] : List UInt8).toArray⟩ from rfl] at h ⊢
  rw [s1, s1, s1, s1] at h
  rw [s2, s2, s2, s2]
  by_cases c0 : c = 60
  · subst c0
    cases t with
    | nil =>
      rw [if_neg (by decide), if_neg (by decide), if_neg (by decide), if_pos (by decide)] at h
      exfalso
      have hl := congrArg List.length hcons
      rw [List.length_drop, List.length_singleton] at hl
      unfold tagP at h
      have : nameEndP d.data.toList (a + 1) = a + 1 := by unfold nameEndP; rw [if_neg (by omega)]
      simp only [this, if_true] at h
      cases h
    | cons x t =>
      have hdrop1 : d.data.toList.drop (a.toNat + 1) = x :: t := by
        rw [← List.drop_drop, hcons]; rfl
      by_cases c1 : ([60, 33, 45, 45] : List UInt8).isPrefixOf (60 :: x :: t) = true
      · rw [if_pos c1] at h
        obtain ⟨u, hu⟩ := List.isPrefixOf_iff_prefix.1 c1
        rw [if_pos (List.isPrefixOf_iff_prefix.2 ⟨u ++ e.data.toList, by rw [← List.append_assoc, hu]; rfl⟩)]
        have hd4 : d.data.toList.drop (a.toNat + 4) = u := by
          rw [← List.drop_drop, hcons, ← hu]; rfl
        have hd4' : (d ++ e).data.toList.drop (a.toNat + 4) = u ++ e.data.toList := by
          rw [← List.drop_drop, hdrop, ← List.cons_append, ← hu]; rfl
        unfold commentP at h ⊢
        simp only [hd4, hd4'] at h ⊢
        by_cases c3 : Lib.index u [45, 45] < 0
        · rw [if_pos c3] at h; cases h
        rw [if_neg c3] at h
        have hroom := Lib.index_room u [45, 45] (by omega)
        rw [index_append _ _ _ (by omega), if_neg c3]
        by_cases c4 : Lib.hasPrefix (u.drop (Lib.index u [45, 45]).toNat) [45, 45, 62] = true
        · rw [if_pos c4] at h
          have : Lib.hasPrefix ((u ++ e.data.toList).drop (Lib.index u [45, 45]).toNat) [45, 45, 62] = true := by
            unfold Lib.hasPrefix at c4 ⊢
            obtain ⟨v, hv⟩ := List.isPrefixOf_iff_prefix.1 c4
            rw [List.drop_append_of_le_length (by omega)]
            exact List.isPrefixOf_iff_prefix.2 ⟨v ++ e.data.toList, by rw [← List.append_assoc, hv]⟩
          rw [if_pos this, List.take_append_of_le_length (by omega)]
          exact h
        · rw [if_neg c4] at h; cases h
      rw [if_neg c1] at h
      by_cases c2 : ([60, 33, 91, 67, 68, 65, 84, 65, 91] : List UInt8).isPrefixOf (60 :: x :: t) = true
      · rw [if_pos c2] at h
        obtain ⟨u, hu⟩ := List.isPrefixOf_iff_prefix.1 c2
        have hno : ¬ ([60, 33, 45, 45] : List UInt8).isPrefixOf (60 :: (x :: t ++ e.data.toList)) = true := by
          rw [← List.cons_append, ← hu]; simp [List.isPrefixOf]
        rw [if_neg hno, if_pos (List.isPrefixOf_iff_prefix.2 ⟨u ++ e.data.toList, by rw [← List.append_assoc, hu]; rfl⟩)]
        have hd9 : d.data.toList.drop (a.toNat + 9) = u := by
          rw [← List.drop_drop, hcons, ← hu]; rfl
        have hd9' : (d ++ e).data.toList.drop (a.toNat + 9) = u ++ e.data.toList := by
          rw [← List.drop_drop, hdrop, ← List.cons_append, ← hu]; rfl
        unfold plainP at h ⊢
        simp only [hd9, hd9'] at h ⊢
        by_cases c3 : (Lib.cut u [93, 93, 62]).2.2 = true
        · obtain ⟨f1, f2⟩ := cut_append u e.data.toList _ c3
          rw [if_pos c3] at h
          rw [f1, if_pos f2]
          exact h
        · rw [if_neg c3] at h; cases h
      rw [if_neg c2] at h
      by_cases c3 : x = 47
      · subst c3
        have hno1 : ¬ ([60, 33, 45, 45] : List UInt8).isPrefixOf (60 :: (47 :: t ++ e.data.toList)) = true := by
          simp [List.isPrefixOf]
        have hno2 : ¬ ([60, 33, 91, 67, 68, 65, 84, 65, 91] : List UInt8).isPrefixOf (60 :: (47 :: t ++ e.data.toList)) = true := by
          simp [List.isPrefixOf]
        have hy1 : ([60, 47] : List UInt8).isPrefixOf (60 :: 47 :: t) = true := by simp [List.isPrefixOf]
        have hy2 : ([60, 47] : List UInt8).isPrefixOf (60 :: (47 :: t ++ e.data.toList)) = true := by simp [List.isPrefixOf]
        rw [if_pos hy1] at h
        rw [if_neg hno1, if_neg hno2, if_pos hy2]
        have hl := congrArg List.length hcons
        rw [List.length_drop, List.length_cons, List.length_cons] at hl
        unfold closingP at h ⊢
        obtain ⟨E, hE⟩ : ∃ E, nameEndP d.data.toList (a + 2) = E := ⟨_, rfl⟩
        obtain ⟨T, hT⟩ : ∃ T, skipP d.data.toList E = T := ⟨_, rfl⟩
        have hE1 := nameEndP_in d.data.toList (a + 2) (by omega) (by omega)
        rw [hE] at hE1
        have hT1 := skipP_in d.data.toList E (by omega) (by omega)
        rw [hT] at hT1
        simp only [hE, hT] at h
        by_cases c : E = a + 2
        · rw [if_pos c] at h; cases h
        rw [if_neg c] at h
        by_cases c' : standsB d T ⟨#[62]⟩ = true
        · rw [if_pos c'] at h
          have hr := stands_room d T 62 (by omega) c'
          have e1 : nameEndP (d ++ e).data.toList (a + 2) = E := by rw [app_list, name_append _ _ _ (by omega) (by omega), hE]
          have e2 : skipP (d ++ e).data.toList E = T := by rw [app_list, skip_append _ _ _ (by omega) (by omega), hT]
          simp only [e1, e2]
          rw [if_neg c, if_pos (stands_app d e T _ c'), part_app _ _ _ _ (by omega) (by omega)]
          exact h
        · rw [if_neg c'] at h; cases h
      · have hn3 : ¬ ([60, 47] : List UInt8).isPrefixOf (60 :: x :: t) = true := by
          simp only [List.isPrefixOf, Bool.and_eq_true, beq_iff_eq]
          exact fun hp => c3 hp.2.1.symm
        have hn3' : ¬ ([60, 47] : List UInt8).isPrefixOf (60 :: (x :: t ++ e.data.toList)) = true := by
          simp only [List.cons_append, List.isPrefixOf, Bool.and_eq_true, beq_iff_eq]
          exact fun hp => c3 hp.2.1.symm
        have hy : ([60] : List UInt8).isPrefixOf (60 :: x :: t) = true := by simp [List.isPrefixOf]
        have hy' : ([60] : List UInt8).isPrefixOf (60 :: (x :: t ++ e.data.toList)) = true := by simp [List.isPrefixOf]
        rw [if_neg hn3, if_pos hy] at h
        have hx : nameB x = true := by
          cases hb : nameB x with
          | true => rfl
          | false =>
            exfalso
            have hl := congrArg List.length hcons
            rw [List.length_drop, List.length_cons, List.length_cons] at hl
            unfold tagP at h
            have : nameEndP d.data.toList (a + 1) = a + 1 := by
              unfold nameEndP
              rw [if_pos (by omega), show (a + 1).toNat = a.toNat + 1 from by omega, hdrop1, nameLen_cons, if_neg (by rw [hb]; decide)]; omega
            simp only [this, if_true] at h
            cases h
        have hx33 : ¬ x = 33 := by intro e; rw [e] at hx; exact absurd hx (by decide)
        have hn1' : ¬ ([60, 33, 45, 45] : List UInt8).isPrefixOf (60 :: (x :: t ++ e.data.toList)) = true := by
          simp only [List.cons_append, List.isPrefixOf, Bool.and_eq_true, beq_iff_eq]
          exact fun hp => hx33 hp.2.1.symm
        have hn2' : ¬ ([60, 33, 91, 67, 68, 65, 84, 65, 91] : List UInt8).isPrefixOf (60 :: (x :: t ++ e.data.toList)) = true := by
          simp only [List.cons_append, List.isPrefixOf, Bool.and_eq_true, beq_iff_eq]
          exact fun hp => hx33 hp.2.1.symm
        rw [if_neg hn1', if_neg hn2', if_neg hn3', if_pos hy']
        exact tag_app d e a h0 h1 new a' h
  · have hn : ∀ (s u : List UInt8), ¬ (60 :: s).isPrefixOf (c :: u) = true := by
      intro s u
      simp only [List.isPrefixOf, Bool.and_eq_true, beq_iff_eq]
      exact fun hp => c0 hp.1.symm
    rw [if_neg (hn _ _), if_neg (hn _ _), if_neg (hn _ _), if_neg (hn _ _)] at h ⊢
    unfold textP at h ⊢
    rw [hdrop]
    rw [hcons] at h
    by_cases c1 : (Lib.cut (c :: t) [60]).2.2 = true
    · have f1 : (Lib.cut (c :: (t ++ e.data.toList)) [60]).1 = (Lib.cut (c :: t) [60]).1 := (cut_append (c :: t) e.data.toList [60] c1).1
      simp only [f1]
      exact h
    · have hno : Lib.index (c :: t) [60] = -1 := by
        unfold Lib.cut at c1
        by_cases c2 : 0 ≤ Lib.index (c :: t) [60]
        · rw [if_pos c2] at c1; exact absurd rfl c1
        · rcases Lib.index_spec (c :: t) [60] with ⟨h1, _⟩ | ⟨i, h1, _⟩
          · exact h1
          · omega
      have hb : (Lib.cut (c :: t) [60]).1 = c :: t := by
        unfold Lib.cut
        rw [hno, if_neg (by decide)]
      have hl := congrArg List.length hcons
      rw [List.length_drop] at hl
      have hb2 : (∃ r, e.data.toList = 60 :: r) → (Lib.cut (c :: (t ++ e.data.toList)) [60]).1 = c :: t := by
        rintro ⟨r, hr⟩
        have hi : Lib.index (c :: (t ++ e.data.toList)) [60] = ((c :: t).length : Nat) := by
          rw [hr, ← List.cons_append]
          apply Lib.index_first
          · rw [List.length_append]; omega
          · unfold Lib.occAt
            rw [List.drop_left]; simp [List.isPrefixOf]
          · intro j hj
            rcases Lib.index_spec (c :: t) [60] with ⟨_, h2⟩ | ⟨i, h1, _⟩
            · have h3 := h2 j (by omega)
              unfold Lib.occAt at h3 ⊢
              rw [List.drop_append_of_le_length (by omega)]
              obtain ⟨z, zs, hz⟩ : ∃ z zs, (c :: t).drop j = z :: zs := ⟨_, _, List.drop_eq_getElem_cons hj⟩
              rw [hz] at h3 ⊢
              rw [List.cons_append]
              simp only [List.isPrefixOf, Bool.and_true] at h3 ⊢
              exact h3
            · omega
        unfold Lib.cut
        rw [hi, if_pos (by omega), Int.toNat_natCast, ← List.cons_append]
        exact List.take_left
      simp only [hb] at h
      cases hd : dec (c :: t) with
      | none => rw [hd] at h; cases h
      | some v =>
        rw [hd] at h
        injection h with h; injection h with h2 h3
        subst h3 h2
        rcases h6 (by omega) with hr | h6
        · simp only [hb2 hr, hd]
        · exact absurd rfl (h6 _ rfl)
theorem lexF_app (d e : ByteArray) : ∀ (n : Nat) (a : Int) (acc l : List Tok), 0 ≤ a → a ≤ (d.size : Int) → lexF d n a acc = some l → ((∃ r, e.data.toList = 60 :: r) ∨ ∀ t, l.getLast? = some t → ¬ t.f0 = 6) → ∀ m : Nat, (e.size : Int) < m → lexF (d ++ e) (n + m) a acc = lexF (d ++ e) m d.size l := by
  intro n
  induction n with
  | zero => intro a acc l _ _ h; cases h
  | succ n ih =>
    intro a acc l h0 h1 h h6 m hm
    unfold lexF at h
    by_cases hlt : a < (d.size : Int)
    · rw [if_pos hlt] at h
      cases hS : stepP d a with
      | none => rw [hS] at h; cases h
      | some v =>
        obtain ⟨new, a'⟩ := v
        rw [hS] at h
        have hroom := step_room d a h0 hlt new a' hS
        have hstep := step_app d e a h0 hlt new a' hS (by
          intro ha
          refine h6.imp id fun h6 t ht => ?_
          have hstop : lexF d n a' (acc ++ new) = some (acc ++ new) := by
            cases n with
            | zero => cases h
            | succ n => unfold lexF; rw [if_neg (by omega)]
          simp only [hstop] at h
          obtain rfl := Option.some.inj h
          apply h6 t
          rw [List.getLast?_append, ht]; rfl)
        rw [show n + 1 + m = n + m + 1 from by omega]
        conv => lhs; unfold lexF
        rw [if_pos (by rw [app_size]; omega), hstep]
        exact ih a' (acc ++ new) l (by omega) hroom.2.1 h h6 m hm
    · rw [if_neg hlt] at h
      obtain rfl := Option.some.inj h
      have ha : a = (d.size : Int) := by omega
      subst ha
      exact lexF_fuel (d ++ e) _ _ _ _ (by omega) (by rw [app_size]; omega) (by rw [app_size]; omega) (by rw [app_size]; omega)
theorem lexO_app (d e : ByteArray) (l m : List Tok) (hd : lexO d = some l) (he : lexO e = some m) (h6 : (∃ r, e.data.toList = 60 :: r) ∨ ∀ t, l.getLast? = some t → ¬ t.f0 = 6) : lexO (d ++ e) = some (l ++ m.map (shT d.size)) := by
  unfold lexO at hd he ⊢
  have hr : restB (d ++ e) d.size = e := by
    unfold restB
    rw [app_list, show ((d.size : Nat) : Int).toNat = d.data.toList.length from by rw [← Lib.size_eq]; omega, List.drop_left]
  have h1 := lexF_app d e (d.size + 1) 0 [] l (by omega) (by omega) hd h6 (e.size + 1) (by omega)
  have h2 := lexF_fuel (d ++ e) ((d ++ e).size + 1) (d.size + 1 + (e.size + 1)) 0 [] (by omega) (by omega) (by omega) (by rw [app_size]; omega)
  rw [h2, h1]
  have h3 := lexF_rest (d ++ e) d.size (by omega) (by rw [app_size]; omega) l (e.size + 1) 0 [] (by omega) (by omega)
  rw [hr, List.map_nil, List.append_nil, he] at h3
  rw [show ((d.size : Nat) : Int) + 0 = (d.size : Nat) from by omega] at h3
  rw [h3]; rfl
end Go.Proofs.Ytlhhhlimjajnlaa.P12
end
