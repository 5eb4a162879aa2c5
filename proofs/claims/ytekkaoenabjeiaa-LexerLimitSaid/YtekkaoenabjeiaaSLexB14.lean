/- Parts of the proof of lexerStands_holds lexerTexts_holds lexerLimit_holds, kept and merged by a program of mine (wip/tools/slim.py) out of my texts: LexE LexF LexG LexI P12g P12t -/
import Derived.Deep.RegionHeld3
import Derived.Test.YtekkaoenabjeiaaSLexB12
import Derived.Test.YtekkaoenabjeiaaSLexB13
import Derived.Test.YtekkaoenabjeiaaSLexB9
import Derived.Test.YtekkaoenabjeiaaSLexB5
section
set_option linter.unusedVariables false
set_option linter.unusedSimpArgs false
namespace Go.Proofs.Ytekkaoenabjeiaa.X
open Go.RowKit Go.Proofs.Ytekkaoenabjeiaa Go.Proofs.Ytekkaoenabjeiaa.Q Go.Proofs.Ytekkaoenabjeiaa.P11 Go.Proofs.YtekkaoenabjeiaaW.PrintWords Go.Proofs.YtekkaoenabjeiaaW.PrintLast Go.Proofs.YtekkaoenabjeiaaW.PrintMore
variable {w0 W : World} {g : Nat} {d : ByteArray} {a : Int} {ts : List Tok} {x : Bool}
theorem takeWhile_le {α : Type} (p : α → Bool) (l : List α) : (l.takeWhile p).length ≤ l.length := by
  induction l with
  | nil => simp
  | cons c t ih => rw [List.takeWhile_cons]; split <;> simp <;> omega
theorem skipP_in (l : List UInt8) (i : Int) (h0 : 0 ≤ i) (h1 : i ≤ l.length) : i ≤ skipP l i ∧ skipP l i ≤ l.length := by
  unfold skipP
  split
  · have := takeWhile_le spaceB (l.drop i.toNat)
    rw [List.length_drop] at this
    omega
  · omega
theorem nameLen_le (l : List UInt8) : nameLen l ≤ l.length := by
  cases l with
  | nil => simp [nameLen]
  | cons c t =>
    have := takeWhile_le (fun d => nameB d || moreB d) t
    show (if nameB c then 1 + (t.takeWhile fun d => nameB d || moreB d).length else 0) ≤ (c :: t).length
    simp only [List.length_cons]
    split <;> omega
theorem nameEndP_in (l : List UInt8) (i : Int) (h0 : 0 ≤ i) (h1 : i ≤ l.length) : i ≤ nameEndP l i ∧ nameEndP l i ≤ l.length := by
  unfold nameEndP
  split
  · have := nameLen_le (l.drop i.toNat)
    rw [List.length_drop] at this
    omega
  · omega
theorem stands_room (d : ByteArray) (i : Int) (c : UInt8) (h0 : 0 ≤ i) (h : standsB d i ⟨#[c]⟩ = true) : i < (d.size : Int) := by
  unfold standsB Lib.hasPrefix at h
  rw [Lib.size_eq]
  by_cases hlt : i < (d.data.toList.length : Int)
  · exact hlt
  · rw [List.drop_of_length_le (by omega)] at h
    simp at h
def partB (d : ByteArray) (i j : Int) : ByteArray := d.extract i.toNat j.toNat
def closingP (d : ByteArray) (a : Int) : Option (List Tok × Int) :=
  let l := d.data.toList
  let e := nameEndP l (a + 2)
  let t := skipP l e
  if e = a + 2 then none
  else if standsB d t ⟨#[62]⟩ = true then some ([⟨5, a, t + 1, partB d (a + 2) e, ⟨#[]⟩⟩], t + 1) else none
set_option maxHeartbeats 8000000 in
set_option maxRecDepth 100000 in
theorem closing_c (w : World) (h : Rd w0 w g d a ts false) (hl : ts.length ≤ 1000000) (hs : d.size ≤ 4294967280) (h0 : 0 ≤ a) (h4 : a + 2 ≤ (d.size : Int)) :
    Calls Try.prog 71 #[.pointer (some ⟨g, 0, none⟩)] w fun e w' => e = .returned (.tuple #[]) ∧ Step w0 w' g d ts (closingP d a) := by
  have H := Lib.hid h
  have hsz : d.data.toList.length = d.size := (Lib.size_eq d).symm
  obtain ⟨E, hE⟩ : ∃ E, nameEndP d.data.toList (a + 2) = E := ⟨_, rfl⟩
  obtain ⟨T, hT⟩ : ∃ T, skipP d.data.toList E = T := ⟨_, rfl⟩
  have hE1 := nameEndP_in d.data.toList (a + 2) (by omega) (by omega)
  rw [hE] at hE1
  have hT1 := skipP_in d.data.toList E (by omega) (by omega)
  rw [hT] at hT1
  have hN : ∀ W, Calls Try.prog 31 #[.string d, .int .i64 (a + 2)] W fun e w' => e = .returned (.int .i64 E) ∧ Below W.heap.size W w' := fun W => chars_NameEnd.calls d (a + 2) E W (by unfold chars_NameEnd.f; rw [if_pos (by omega), hE])
  have hK : ∀ W, Calls Try.prog 32 #[.string d, .int .i64 E] W fun e w' => e = .returned (.int .i64 T) ∧ Below W.heap.size W w' := fun W => chars_Skip.calls d E T W (by unfold chars_Skip.f; rw [if_pos (by omega), hT])
  have hP : closingP d a = if E = a + 2 then none else if standsB d T ⟨#[62]⟩ = true then some ([⟨5, a, T + 1, partB d (a + 2) E, ⟨#[]⟩⟩], T + 1) else none := by unfold closingP; simp only [hE, hT]
  have hc0 := h.c0
  have hc1 := h.c1
  have hw : IntKind.i64.wrap (a + 2) = a + 2 := by rw [IntKind.wrap_i64]; omega
  have hw2 : IntKind.i64.wrap (T + 1) = T + 1 := by rw [IntKind.wrap_i64]; omega
  rw [hP]
  clear hP
  clear h hE hT
  by_cases c1 : E = a + 2
  · rw [if_pos c1]
    have b1 : (E == a + 2) = true := by rw [c1]; exact beq_self_eq_true _
    have b2 := eq_true c1
    clear c1
    go_enter Try.func71, Try.ntmps71
    go_wp2_with (first | (go_at_call 31; (with_reducible refine (hN _).mono ?_); rintro e w1 ⟨rfl, hb_⟩; have H1 := Lib.hid (show Rd w0 w1 g d a ts false from by first | exact H.out.below hb_ | exact (H.out.drewN _).below hb_); have hd0 := H1.out.c0; have hd1 := H1.out.c1; clear hb_) | (go_at_call 32; (with_reducible refine (hK _).mono ?_); rintro e w2 ⟨rfl, hb_⟩; have H2 := Lib.hid (show Rd w0 w2 g d a ts false from by first | exact H1.out.below hb_ | exact (H1.out.drewN _).below hb_); have he0 := H2.out.c0; have he1 := H2.out.c1; clear hb_) | (go_at_call 85; (with_reducible refine (fails_c _ (by first | exact H2.out | exact H2.out.drewN _)).mono ?_); rintro e w3 ⟨rfl, hf⟩))
    first | go_end0 | go_ret | ((try simp only [Exit.inBlock, Exit.then]); refine bodyPost_ret (results_none rfl _ _ _) rfl ?_)
    exact ⟨rfl, _, _, hf⟩
  rw [if_neg c1]
  have b1 : (E == a + 2) = false := beq_eq_false_iff_ne.2 c1
  have b2 := eq_false c1
  clear c1
  have hroom := stands_room d T 62 (by omega)
  obtain ⟨s, hS⟩ : ∃ s, standsB d T ⟨#[62]⟩ = s := ⟨_, rfl⟩
  rw [hS] at hroom ⊢
  have HS := Lib.hid hS
  cases s with
  | false =>
    rw [if_neg (by decide)]
    clear hroom
    go_enter Try.func71, Try.ntmps71
    go_wp2_with (first | (go_at_call 31; (with_reducible refine (hN _).mono ?_); rintro e w1 ⟨rfl, hb_⟩; have H1 := Lib.hid (show Rd w0 w1 g d a ts false from by first | exact H.out.below hb_ | exact (H.out.drewN _).below hb_); have hd0 := H1.out.c0; have hd1 := H1.out.c1; clear hb_) | (go_at_call 32; (with_reducible refine (hK _).mono ?_); rintro e w2 ⟨rfl, hb_⟩; have H2 := Lib.hid (show Rd w0 w2 g d a ts false from by first | exact H1.out.below hb_ | exact (H1.out.drewN _).below hb_); have he0 := H2.out.c0; have he1 := H2.out.c1; clear hb_) | (go_at_call 68; (with_reducible refine (stands_c _ (by first | exact H2.out | exact H2.out.drewN _) T _ (by omega)).mono ?_); rintro e w' ⟨rfl, n1, rfl⟩) | (go_at_call 85; (with_reducible refine (fails_c _ (by first | exact H2.out | exact H2.out.drewN _)).mono ?_); rintro e w3 ⟨rfl, hf⟩))
    first | go_end0 | go_ret | ((try simp only [Exit.inBlock, Exit.then]); refine bodyPost_ret (results_none rfl _ _ _) rfl ?_)
    exact ⟨rfl, _, _, hf⟩
  | true =>
    rw [if_pos rfl]
    have hroom := hroom rfl
    go_enter Try.func71, Try.ntmps71
    go_wp2_with (first | (go_at_call 31; (with_reducible refine (hN _).mono ?_); rintro e w1 ⟨rfl, hb_⟩; have H1 := Lib.hid (show Rd w0 w1 g d a ts false from by first | exact H.out.below hb_ | exact (H.out.drewN _).below hb_); have hd0 := H1.out.c0; have hd1 := H1.out.c1; clear hb_) | (go_at_call 32; (with_reducible refine (hK _).mono ?_); rintro e w2 ⟨rfl, hb_⟩; have H2 := Lib.hid (show Rd w0 w2 g d a ts false from by first | exact H1.out.below hb_ | exact (H1.out.drewN _).below hb_); have he0 := H2.out.c0; have he1 := H2.out.c1; clear hb_) | (go_at_call 68; (with_reducible refine (stands_c _ (by first | exact H2.out | exact H2.out.drewN _) T _ (by omega)).mono ?_); rintro e w' ⟨rfl, n1, rfl⟩))
    have HR := H2.out.drewN n1
    have hx0 := HR.c0
    have hx1 := HR.c1
    have hy0 := HR.drew.c0
    have hy1 := HR.drew.c1
    clear HR
    have g0 : decide (0 ≤ a + 2) = true := decide_eq_true (by omega)
    have g1 : decide (a + 2 ≤ E) = true := decide_eq_true (by omega)
    have g2 : decide (E ≤ (d.size : Int)) = true := decide_eq_true (by omega)
    have g0' := eq_true (show 0 ≤ a + 2 by omega)
    have g1' := eq_true (show a + 2 ≤ E by omega)
    have g2' := eq_true (show E ≤ (d.size : Int) by omega)
    go_region_with (go_at_call 86; refine (tell_c (w0 := w0) (g := g) (d := d) (a := a) (ts := ts) (x := false) _ (H2.out.drewN _) 5 a _ _ _ hl).mono ?_; rintro e w' ⟨rfl, hr⟩)
    all_goals
      go_wp2
      first | go_end0 | ((try simp only [Exit.inBlock, Exit.then]); refine bodyPost_ret (results_none rfl _ _ _) rfl ?_)
      exact ⟨rfl, hr⟩
end Go.Proofs.Ytekkaoenabjeiaa.X
end
section
set_option linter.unusedVariables false
set_option linter.unusedSimpArgs false
namespace Go.Proofs.Ytekkaoenabjeiaa.X
open Go.RowKit Go.Proofs.Ytekkaoenabjeiaa Go.Proofs.Ytekkaoenabjeiaa.Q Go.Proofs.Ytekkaoenabjeiaa.P11 Go.Proofs.YtekkaoenabjeiaaW.PrintWords Go.Proofs.YtekkaoenabjeiaaW.PrintLast Go.Proofs.YtekkaoenabjeiaaW.PrintMore
variable {w0 W : World} {g : Nat} {d : ByteArray} {a : Int} {ts : List Tok} {x : Bool}
def attrP (d : ByteArray) (a : Int) : Option (List Tok × Int) :=
  let l := d.data.toList
  let F := skipP l a
  let E := nameEndP l F
  let Q := skipP l E
  let O := skipP l (Q + 1)
  let c := Lib.cut (l.drop (O + 1).toNat) (partB d O (O + 1)).data.toList
  if F = a then none
  else if E = F then none
  else if standsB d Q ⟨#[61]⟩ = false then none
  else if standsB d O ⟨#[34]⟩ = false ∧ standsB d O ⟨#[39]⟩ = false then none
  else if c.2.2 = false then none
  else if 0 ≤ Lib.indexByte c.1 60 then none
  else match dec c.1 with
    | some v => some ([⟨2, F, O + (c.1.length : Int) + 2, partB d F E, ⟨v.toArray⟩⟩], O + (c.1.length : Int) + 2)
    | none => none
set_option maxHeartbeats 16000000 in
set_option maxRecDepth 100000 in
theorem attr_c (w : World) (h : Rd w0 w g d a ts false) (hG : G w0) (hl : ts.length ≤ 1000000) (hs : d.size ≤ 4294967200) (h0 : 0 ≤ a) (h4 : a ≤ (d.size : Int)) :
    Calls Try.prog 87 #[.pointer (some ⟨g, 0, none⟩)] w fun e w' => e = .returned (.tuple #[]) ∧ Step w0 w' g d ts (attrP d a) := by
  have H := Lib.hid h
  have hsz : d.data.toList.length = d.size := (Lib.size_eq d).symm
  obtain ⟨F, hF⟩ : ∃ F, skipP d.data.toList a = F := ⟨_, rfl⟩
  obtain ⟨E, hE⟩ : ∃ E, nameEndP d.data.toList F = E := ⟨_, rfl⟩
  obtain ⟨Q, hQ⟩ : ∃ Q, skipP d.data.toList E = Q := ⟨_, rfl⟩
  obtain ⟨O, hO⟩ : ∃ O, skipP d.data.toList (Q + 1) = O := ⟨_, rfl⟩
  have hF1 := skipP_in d.data.toList a (by omega) (by omega)
  rw [hF] at hF1
  have hE1 := nameEndP_in d.data.toList F (by omega) (by omega)
  rw [hE] at hE1
  have hQ1 := skipP_in d.data.toList E (by omega) (by omega)
  rw [hQ] at hQ1
  have hK0 : ∀ W, Calls Try.prog 32 #[.string d, .int .i64 a] W fun e w' => e = .returned (.int .i64 F) ∧ Below W.heap.size W w' := fun W => chars_Skip.calls d a F W (by unfold chars_Skip.f; rw [if_pos (by omega), hF])
  have hN : ∀ W, Calls Try.prog 31 #[.string d, .int .i64 F] W fun e w' => e = .returned (.int .i64 E) ∧ Below W.heap.size W w' := fun W => chars_NameEnd.calls d F E W (by unfold chars_NameEnd.f; rw [if_pos (by omega), hE])
  have hKE : ∀ W, Calls Try.prog 32 #[.string d, .int .i64 E] W fun e w' => e = .returned (.int .i64 Q) ∧ Below W.heap.size W w' := fun W => chars_Skip.calls d E Q W (by unfold chars_Skip.f; rw [if_pos (by omega), hQ])
  have hKO : ∀ W, Calls Try.prog 32 #[.string d, .int .i64 (Q + 1)] W fun e w' => e = .returned (.int .i64 O) ∧ Below W.heap.size W w' := fun W => chars_Skip.calls d (Q + 1) O W (by unfold chars_Skip.f; rw [if_pos (by omega), hO])
  obtain ⟨P, hP⟩ : ∃ P, attrP d a = P := ⟨_, rfl⟩
  rw [hP]
  unfold attrP at hP
  simp only [hF, hE, hQ, hO] at hP
  have hc0 := h.c0
  have hc1 := h.c1
  have hx0 := h.drew.c0
  have hx1 := h.drew.c1
  have hw : IntKind.i64.wrap (Q + 1) = Q + 1 := by rw [IntKind.wrap_i64]; omega
  clear h
  by_cases c1 : F = a
  · rw [if_pos c1] at hP
    subst hP
    have b1 : (F == a) = true := by rw [c1]; exact beq_self_eq_true _
    have b2 := eq_true c1
    clear c1
    go_enter Try.func87, Try.ntmps87
    go_wp2
    go_region_held3 (fun W => W.cell? ⟨g, 0, none⟩ = some (.string d) ∧ W.cell? ⟨g, 1, none⟩ = some (.int .i64 a)) (first | exact ⟨by assumption, by assumption⟩ | go_keep) ((go_at_call 32; (with_reducible refine (hK0 _).mono ?_); rintro e w1 ⟨rfl, hb_⟩; have H1 := Lib.hid (show Rd w0 w1 g d a ts false from by first | exact H.out.below hb_ | exact (H.out.drewN _).below hb_ | exact (H.out.drew).below hb_); have hd0 := H1.out.c0; have hd1 := H1.out.c1; clear hb_))
    go_wp2_with (first | (go_at_call 31; (with_reducible refine (hN _).mono ?_); rintro e w2 ⟨rfl, hb_⟩; have H2 := Lib.hid (show Rd w0 w2 g d a ts false from by first | exact H1.out.below hb_ | exact (H1.out.drewN _).below hb_ | exact (H1.out.drew).below hb_); have he0 := H2.out.c0; have he1 := H2.out.c1; clear hb_) | (go_at_call 32; (with_reducible refine (hKE _).mono ?_); rintro e w3 ⟨rfl, hb_⟩; have H3 := Lib.hid (show Rd w0 w3 g d a ts false from by first | exact H2.out.below hb_ | exact (H2.out.drewN _).below hb_ | exact (H2.out.drew).below hb_); have hf0 := H3.out.c0; have hf1 := H3.out.c1; clear hb_) | (go_at_call 85; (with_reducible refine (fails_c _ (by first | exact H3.out | exact H3.out.drewN _)).mono ?_); rintro e w' ⟨rfl, hf_⟩))
    first | go_end0 | go_ret | ((try simp only [Exit.inBlock, Exit.then]); refine bodyPost_ret (results_none rfl _ _ _) rfl ?_)
    exact ⟨rfl, _, _, hf_⟩
  rw [if_neg c1] at hP
  have b1 : (F == a) = false := beq_eq_false_iff_ne.2 c1
  have b2 := eq_false c1
  clear c1
  by_cases c2 : E = F
  · rw [if_pos c2] at hP
    subst hP
    have b3 : (E == F) = true := by rw [c2]; exact beq_self_eq_true _
    have b4 := eq_true c2
    clear c2
    go_enter Try.func87, Try.ntmps87
    go_wp2
    go_region_held3 (fun W => W.cell? ⟨g, 0, none⟩ = some (.string d) ∧ W.cell? ⟨g, 1, none⟩ = some (.int .i64 a)) (first | exact ⟨by assumption, by assumption⟩ | go_keep) ((go_at_call 32; (with_reducible refine (hK0 _).mono ?_); rintro e w1 ⟨rfl, hb_⟩; have H1 := Lib.hid (show Rd w0 w1 g d a ts false from by first | exact H.out.below hb_ | exact (H.out.drewN _).below hb_ | exact (H.out.drew).below hb_); have hd0 := H1.out.c0; have hd1 := H1.out.c1; clear hb_))
    go_wp2_with (first | (go_at_call 31; (with_reducible refine (hN _).mono ?_); rintro e w2 ⟨rfl, hb_⟩; have H2 := Lib.hid (show Rd w0 w2 g d a ts false from by first | exact H1.out.below hb_ | exact (H1.out.drewN _).below hb_ | exact (H1.out.drew).below hb_); have he0 := H2.out.c0; have he1 := H2.out.c1; clear hb_) | (go_at_call 32; (with_reducible refine (hKE _).mono ?_); rintro e w3 ⟨rfl, hb_⟩; have H3 := Lib.hid (show Rd w0 w3 g d a ts false from by first | exact H2.out.below hb_ | exact (H2.out.drewN _).below hb_ | exact (H2.out.drew).below hb_); have hf0 := H3.out.c0; have hf1 := H3.out.c1; clear hb_) | (go_at_call 85; (with_reducible refine (fails_c _ (by first | exact H3.out | exact H3.out.drewN _)).mono ?_); rintro e w' ⟨rfl, hf_⟩))
    first | go_end0 | go_ret | ((try simp only [Exit.inBlock, Exit.then]); refine bodyPost_ret (results_none rfl _ _ _) rfl ?_)
    exact ⟨rfl, _, _, hf_⟩
  rw [if_neg c2] at hP
  have b3 : (E == F) = false := beq_eq_false_iff_ne.2 c2
  have b4 := eq_false c2
  clear c2
  have hroom := stands_room d Q 61 (by omega)
  obtain ⟨s1, hS1⟩ : ∃ s, standsB d Q ⟨#[61]⟩ = s := ⟨_, rfl⟩
  rw [hS1] at hroom hP
  have HS1 := Lib.hid hS1
  cases s1 with
  | false =>
    rw [if_pos rfl] at hP
    subst hP
    clear hroom
    go_enter Try.func87, Try.ntmps87
    go_wp2
    go_region_held3 (fun W => W.cell? ⟨g, 0, none⟩ = some (.string d) ∧ W.cell? ⟨g, 1, none⟩ = some (.int .i64 a)) (first | exact ⟨by assumption, by assumption⟩ | go_keep) ((go_at_call 32; (with_reducible refine (hK0 _).mono ?_); rintro e w1 ⟨rfl, hb_⟩; have H1 := Lib.hid (show Rd w0 w1 g d a ts false from by first | exact H.out.below hb_ | exact (H.out.drewN _).below hb_ | exact (H.out.drew).below hb_); have hd0 := H1.out.c0; have hd1 := H1.out.c1; clear hb_))
    go_wp2_with (first | (go_at_call 31; (with_reducible refine (hN _).mono ?_); rintro e w2 ⟨rfl, hb_⟩; have H2 := Lib.hid (show Rd w0 w2 g d a ts false from by first | exact H1.out.below hb_ | exact (H1.out.drewN _).below hb_ | exact (H1.out.drew).below hb_); have he0 := H2.out.c0; have he1 := H2.out.c1; clear hb_) | (go_at_call 32; (with_reducible refine (hKE _).mono ?_); rintro e w3 ⟨rfl, hb_⟩; have H3 := Lib.hid (show Rd w0 w3 g d a ts false from by first | exact H2.out.below hb_ | exact (H2.out.drewN _).below hb_ | exact (H2.out.drew).below hb_); have hf0 := H3.out.c0; have hf1 := H3.out.c1; clear hb_) | (go_at_call 68; (with_reducible refine (stands_c _ (by first | exact H3.out | exact H3.out.drewN _) Q _ (by omega)).mono ?_); rintro e w' ⟨rfl, n_, rfl⟩) | (go_at_call 85; (with_reducible refine (fails_c _ (by first | exact H3.out | exact H3.out.drewN _)).mono ?_); rintro e w' ⟨rfl, hf_⟩))
    first | go_end0 | go_ret | ((try simp only [Exit.inBlock, Exit.then]); refine bodyPost_ret (results_none rfl _ _ _) rfl ?_)
    exact ⟨rfl, _, _, hf_⟩
  | true =>
    rw [if_neg (by decide)] at hP
    have hroom := hroom rfl
    have hO1 := skipP_in d.data.toList (Q + 1) (by omega) (by omega)
    rw [hO] at hO1
    obtain ⟨s2, hS2⟩ : ∃ s, standsB d O ⟨#[34]⟩ = s := ⟨_, rfl⟩
    obtain ⟨s3, hS3⟩ : ∃ s, standsB d O ⟨#[39]⟩ = s := ⟨_, rfl⟩
    have hroom2 := stands_room d O 34 (by omega)
    have hroom3 := stands_room d O 39 (by omega)
    rw [hS2] at hroom2 hP
    rw [hS3] at hroom3 hP
    have HS2 := Lib.hid hS2
    have HS3 := Lib.hid hS3
    by_cases c3 : s2 = false ∧ s3 = false
    · rw [if_pos c3] at hP
      subst hP
      obtain ⟨rfl, rfl⟩ := c3
      clear hroom2 hroom3
      go_enter Try.func87, Try.ntmps87
      go_wp2
      go_region_held3 (fun W => W.cell? ⟨g, 0, none⟩ = some (.string d) ∧ W.cell? ⟨g, 1, none⟩ = some (.int .i64 a)) (first | exact ⟨by assumption, by assumption⟩ | go_keep) ((go_at_call 32; (with_reducible refine (hK0 _).mono ?_); rintro e w1 ⟨rfl, hb_⟩; have H1 := Lib.hid (show Rd w0 w1 g d a ts false from by first | exact H.out.below hb_ | exact (H.out.drewN _).below hb_ | exact (H.out.drew).below hb_); have hd0 := H1.out.c0; have hd1 := H1.out.c1; clear hb_))
      go_wp2_with (first | (go_at_call 31; (with_reducible refine (hN _).mono ?_); rintro e w2 ⟨rfl, hb_⟩; have H2 := Lib.hid (show Rd w0 w2 g d a ts false from by first | exact H1.out.below hb_ | exact (H1.out.drewN _).below hb_ | exact (H1.out.drew).below hb_); have he0 := H2.out.c0; have he1 := H2.out.c1; clear hb_) | (go_at_call 32; (with_reducible refine (hKE _).mono ?_); rintro e w3 ⟨rfl, hb_⟩; have H3 := Lib.hid (show Rd w0 w3 g d a ts false from by first | exact H2.out.below hb_ | exact (H2.out.drewN _).below hb_ | exact (H2.out.drew).below hb_); have hf0 := H3.out.c0; have hf1 := H3.out.c1; clear hb_) | (go_at_call 68; (with_reducible refine (stands_c _ (by first | exact H3.out | exact H3.out.drewN _) Q _ (by omega)).mono ?_); rintro e w' ⟨rfl, n_, rfl⟩) | (go_at_call 32; (with_reducible refine (hKO _).mono ?_); rintro e w4 ⟨rfl, hb_⟩; have H4 := Lib.hid (show Rd w0 w4 g d a ts false from by first | exact H3.out.below hb_ | exact (H3.out.drewN _).below hb_ | exact (H3.out.drew).below hb_); have hg0 := H4.out.c0; have hg1 := H4.out.c1; clear hb_) | (go_at_call 68; (with_reducible refine (stands_c _ (by first | exact H4.out | exact H4.out.drewN _) O _ (by omega)).mono ?_); rintro e w' ⟨rfl, n_, rfl⟩) | (go_at_call 85; (with_reducible refine (fails_c _ (by first | exact H4.out | exact H4.out.drewN _)).mono ?_); rintro e w' ⟨rfl, hf_⟩))
      first | go_end0 | go_ret | ((try simp only [Exit.inBlock, Exit.then]); refine bodyPost_ret (results_none rfl _ _ _) rfl ?_)
      exact ⟨rfl, _, _, hf_⟩
    rw [if_neg c3] at hP
    have hO2 : O < (d.size : Int) := by
      cases s2 with
      | true => exact hroom2 rfl
      | false => cases s3 with
        | true => exact hroom3 rfl
        | false => exact absurd ⟨rfl, rfl⟩ c3
    have hqt : s2 = true ∨ (s2 = false ∧ s3 = true) := by
      cases s2 with
      | true => exact .inl rfl
      | false => cases s3 with
        | true => exact .inr ⟨rfl, rfl⟩
        | false => exact absurd ⟨rfl, rfl⟩ c3
    clear c3 hroom2 hroom3 HS1 HS2 HS3
    obtain ⟨B, hB⟩ : ∃ B, d.extract (O + 1).toNat d.size = B := ⟨_, rfl⟩
    obtain ⟨Z, hZ⟩ : ∃ Z, d.extract O.toNat (O + 1).toNat = Z := ⟨_, rfl⟩
    have hZ' : partB d O (O + 1) = Z := hZ
    have hBl : B.data.toList = d.data.toList.drop (O + 1).toNat := by
      rw [← hB, Lib.extract_data, List.take_of_length_le (by rw [List.length_drop, ← Lib.size_eq]; exact Nat.le_refl _)]
    have hBs : B.size ≤ d.size := by rw [Lib.size_eq, hBl, List.length_drop, ← Lib.size_eq]; omega
    obtain ⟨m, hm⟩ := hG
    have hcell : ∀ W, Below w0.heap.size w0 W → W.cell? ⟨0, 0, none⟩ = some (.int .i64 m) := fun W hb => by
      have hlt := World.block_lt_of_cell? _ _ hm
      rw [← hm]; unfold World.cell?
      simp only [hb.block 0 hlt]
    obtain ⟨C1, hC1⟩ : ∃ C1, (⟨(Lib.cut B.data.toList Z.data.toList).1.toArray⟩ : ByteArray) = C1 := ⟨_, rfl⟩
    obtain ⟨C2, hC2⟩ : ∃ C2, (⟨(Lib.cut B.data.toList Z.data.toList).2.1.toArray⟩ : ByteArray) = C2 := ⟨_, rfl⟩
    obtain ⟨q, hq⟩ : ∃ q, (Lib.cut B.data.toList Z.data.toList).2.2 = q := ⟨_, rfl⟩
    have hCx : ∀ W, Below w0.heap.size w0 W → Calls Try.prog 43 #[.string B, .string Z] W fun e w' => e = .returned (.tuple #[.string C1, .string C2, .bool q]) ∧ ∃ n, w' = W.drewN n := fun W hb => by
      have := Try.strings_Cut B Z m W (by omega) (hcell W hb)
      rw [← hC1, ← hC2, ← hq]; exact this
    have HCx := Lib.hid hCx
    have hC1l : C1.data.toList = (Lib.cut B.data.toList Z.data.toList).1 := by rw [← hC1]
    have hC1s : C1.size ≤ B.size := by
      rw [Lib.size_eq, Lib.size_eq, hC1l]; exact cut_le _ _
    obtain ⟨ct, hct⟩ : ∃ ct, decide (0 ≤ Lib.indexByte C1.data.toList 60) = ct := ⟨_, rfl⟩
    have hCo : ∀ W, Calls Try.prog 93 #[.string C1, .string ⟨#[60]⟩] W fun e w' => e = .returned (.bool ct) ∧ w' = W := fun W => by
      have := Try.strings_Contains_one C1 60 W
      rw [hct] at this; exact this
    rw [hZ', ← hBl, ← hC1l, hq] at hP
    have hw3 : IntKind.i64.wrap (O + 1) = O + 1 := by rw [IntKind.wrap_i64]; omega
    have g0 : decide (0 ≤ O) = true := decide_eq_true (by omega)
    have g1 : decide (0 ≤ O + 1) = true := decide_eq_true (by omega)
    have g2 : decide (O + 1 ≤ (d.size : Int)) = true := decide_eq_true (by omega)
    have g3 : decide (O ≤ O + 1) = true := decide_eq_true (by omega)
    have g0' := eq_true (show 0 ≤ O by omega)
    have g1' := eq_true (show 0 ≤ O + 1 by omega)
    have g2' := eq_true (show O + 1 ≤ (d.size : Int) by omega)
    have g3' := eq_true (show O ≤ O + 1 by omega)
    clear hCx hcell hm hC1 hC2 hF hE hQ hO
    cases q with
    | false =>
      rw [if_pos rfl] at hP
      subst hP
      rcases hqt with rfl | ⟨rfl, rfl⟩
      all_goals
        go_enter Try.func87, Try.ntmps87
        go_wp2
        go_region_held3 (fun W => W.cell? ⟨g, 0, none⟩ = some (.string d) ∧ W.cell? ⟨g, 1, none⟩ = some (.int .i64 a)) (first | exact ⟨by assumption, by assumption⟩ | go_keep) ((go_at_call 32; (with_reducible refine (hK0 _).mono ?_); rintro e w1 ⟨rfl, hb_⟩; have H1 := Lib.hid (show Rd w0 w1 g d a ts false from by first | exact H.out.below hb_ | exact (H.out.drewN _).below hb_ | exact (H.out.drew).below hb_); have hd0 := H1.out.c0; have hd1 := H1.out.c1; clear hb_))
        go_wp2_with (first | (go_at_call 31; (with_reducible refine (hN _).mono ?_); rintro e w2 ⟨rfl, hb_⟩; have H2 := Lib.hid (show Rd w0 w2 g d a ts false from by first | exact H1.out.below hb_ | exact (H1.out.drewN _).below hb_ | exact (H1.out.drew).below hb_); have he0 := H2.out.c0; have he1 := H2.out.c1; clear hb_) | (go_at_call 32; (with_reducible refine (hKE _).mono ?_); rintro e w3 ⟨rfl, hb_⟩; have H3 := Lib.hid (show Rd w0 w3 g d a ts false from by first | exact H2.out.below hb_ | exact (H2.out.drewN _).below hb_ | exact (H2.out.drew).below hb_); have hf0 := H3.out.c0; have hf1 := H3.out.c1; clear hb_) | (go_at_call 68; (with_reducible refine (stands_c _ (by first | exact H3.out | exact H3.out.drewN _) Q _ (by omega)).mono ?_); rintro e w' ⟨rfl, n_, rfl⟩) | (go_at_call 32; (with_reducible refine (hKO _).mono ?_); rintro e w4 ⟨rfl, hb_⟩; have H4 := Lib.hid (show Rd w0 w4 g d a ts false from by first | exact H3.out.below hb_ | exact (H3.out.drewN _).below hb_ | exact (H3.out.drew).below hb_); have hg0 := H4.out.c0; have hg1 := H4.out.c1; clear hb_) | (go_at_call 68; (with_reducible refine (stands_c _ (by first | exact H4.out | exact H4.out.drewN _) O _ (by omega)).mono ?_); rintro e w' ⟨rfl, n_, rfl⟩))
        go_region_held3 (fun W => W.cell? ⟨g, 0, none⟩ = some (.string d)) (first | assumption | exact Rd.c0 (w0 := w0) (g := g) (d := d) (a := a) (ts := ts) (x := false) (by first | exact H4.out | exact H4.out.drewN _ | exact H4.out.drew | exact (H4.out.drewN _).drew | exact (H4.out.drewN _).drew.drewN _ | exact H4.out.drew.drewN _ | exact (H4.out.drewN _).drewN _) | go_keep) ((go_at_call 43; refine (HCx.out _ ?_).mono ?_; exact (Rd.bel (g := g) (d := d) (a := a) (ts := ts) (x := false) (by first | exact H4.out | exact H4.out.drewN _ | exact H4.out.drew | exact (H4.out.drewN _).drew | exact (H4.out.drewN _).drew.drewN _ | exact H4.out.drew.drewN _ | exact (H4.out.drewN _).drewN _)); rintro e w' ⟨rfl, n8, rfl⟩))
        go_wp2_with (first | (go_at_call 85; (with_reducible refine (fails_c _ (by first | exact H4.out | exact H4.out.drewN _)).mono ?_); rintro e w' ⟨rfl, hf_⟩))
        first | go_end0 | go_ret | ((try simp only [Exit.inBlock, Exit.then]); refine bodyPost_ret (results_none rfl _ _ _) rfl ?_)
        exact ⟨rfl, _, _, hf_⟩
    | true =>
      rw [if_neg (by decide)] at hP
      cases ct with
      | true =>
        rw [if_pos (of_decide_eq_true hct)] at hP
        subst hP
        rcases hqt with rfl | ⟨rfl, rfl⟩
        all_goals
          go_enter Try.func87, Try.ntmps87
          go_wp2
          go_region_held3 (fun W => W.cell? ⟨g, 0, none⟩ = some (.string d) ∧ W.cell? ⟨g, 1, none⟩ = some (.int .i64 a)) (first | exact ⟨by assumption, by assumption⟩ | go_keep) ((go_at_call 32; (with_reducible refine (hK0 _).mono ?_); rintro e w1 ⟨rfl, hb_⟩; have H1 := Lib.hid (show Rd w0 w1 g d a ts false from by first | exact H.out.below hb_ | exact (H.out.drewN _).below hb_ | exact (H.out.drew).below hb_); have hd0 := H1.out.c0; have hd1 := H1.out.c1; clear hb_))
          go_wp2_with (first | (go_at_call 31; (with_reducible refine (hN _).mono ?_); rintro e w2 ⟨rfl, hb_⟩; have H2 := Lib.hid (show Rd w0 w2 g d a ts false from by first | exact H1.out.below hb_ | exact (H1.out.drewN _).below hb_ | exact (H1.out.drew).below hb_); have he0 := H2.out.c0; have he1 := H2.out.c1; clear hb_) | (go_at_call 32; (with_reducible refine (hKE _).mono ?_); rintro e w3 ⟨rfl, hb_⟩; have H3 := Lib.hid (show Rd w0 w3 g d a ts false from by first | exact H2.out.below hb_ | exact (H2.out.drewN _).below hb_ | exact (H2.out.drew).below hb_); have hf0 := H3.out.c0; have hf1 := H3.out.c1; clear hb_) | (go_at_call 68; (with_reducible refine (stands_c _ (by first | exact H3.out | exact H3.out.drewN _) Q _ (by omega)).mono ?_); rintro e w' ⟨rfl, n_, rfl⟩) | (go_at_call 32; (with_reducible refine (hKO _).mono ?_); rintro e w4 ⟨rfl, hb_⟩; have H4 := Lib.hid (show Rd w0 w4 g d a ts false from by first | exact H3.out.below hb_ | exact (H3.out.drewN _).below hb_ | exact (H3.out.drew).below hb_); have hg0 := H4.out.c0; have hg1 := H4.out.c1; clear hb_) | (go_at_call 68; (with_reducible refine (stands_c _ (by first | exact H4.out | exact H4.out.drewN _) O _ (by omega)).mono ?_); rintro e w' ⟨rfl, n_, rfl⟩))
          go_region_held3 (fun W => W.cell? ⟨g, 0, none⟩ = some (.string d)) (first | assumption | exact Rd.c0 (w0 := w0) (g := g) (d := d) (a := a) (ts := ts) (x := false) (by first | exact H4.out | exact H4.out.drewN _ | exact H4.out.drew | exact (H4.out.drewN _).drew | exact (H4.out.drewN _).drew.drewN _ | exact H4.out.drew.drewN _ | exact (H4.out.drewN _).drewN _) | go_keep) ((go_at_call 43; refine (HCx.out _ ?_).mono ?_; exact (Rd.bel (g := g) (d := d) (a := a) (ts := ts) (x := false) (by first | exact H4.out | exact H4.out.drewN _ | exact H4.out.drew | exact (H4.out.drewN _).drew | exact (H4.out.drewN _).drew.drewN _ | exact H4.out.drew.drewN _ | exact (H4.out.drewN _).drewN _)); rintro e w' ⟨rfl, n8, rfl⟩))
          go_wp2_with (first | (go_at_call 93; (with_reducible refine (hCo _).mono ?_); rintro e w' ⟨rfl, rfl⟩) | (go_at_call 85; (with_reducible refine (fails_c _ (by first | exact H4.out | exact H4.out.drewN _)).mono ?_); rintro e w' ⟨rfl, hf_⟩))
          first | go_end0 | go_ret | ((try simp only [Exit.inBlock, Exit.then]); refine bodyPost_ret (results_none rfl _ _ _) rfl ?_)
          exact ⟨rfl, _, _, hf_⟩
      | false =>
        rw [if_neg (of_decide_eq_false hct)] at hP
        have hw4 : IntKind.i64.wrap (IntKind.i64.wrap (O + (C1.size : Int)) + 2) = O + (C1.size : Int) + 2 := by rw [IntKind.wrap_i64, IntKind.wrap_i64]; omega
        have k0 : decide (0 ≤ F) = true := decide_eq_true (by omega)
        have k1 : decide (F ≤ E) = true := decide_eq_true (by omega)
        have k2 : decide (E ≤ (d.size : Int)) = true := decide_eq_true (by omega)
        have k0' := eq_true (show 0 ≤ F by omega)
        have k1' := eq_true (show F ≤ E by omega)
        have k2' := eq_true (show E ≤ (d.size : Int) by omega)
        have hS : ∀ w', Rd w0 w' g d (O + (C1.size : Int) + 2) (ts ++ [⟨2, F, O + (C1.size : Int) + 2, partB d F E, decS C1⟩]) (false || decBad C1) → Step w0 w' g d ts P := by
          intro w' hr
          subst hP
          rw [Lib.size_eq] at hr
          cases hd : dec C1.data.toList with
          | none =>
            have : decBad C1 = true := by unfold decBad; rw [hd]; rfl
            rw [this] at hr
            exact ⟨_, _, hr⟩
          | some v =>
            have hb : decBad C1 = false := by unfold decBad; rw [hd]; rfl
            have hv : decS C1 = ⟨v.toArray⟩ := by unfold decS; rw [hd]; rfl
            rw [hb, hv] at hr
            exact hr
        have HS := Lib.hid hS
        clear hS hP
        rcases hqt with rfl | ⟨rfl, rfl⟩
        all_goals
          go_enter Try.func87, Try.ntmps87
          go_wp2
          go_region_held3 (fun W => W.cell? ⟨g, 0, none⟩ = some (.string d) ∧ W.cell? ⟨g, 1, none⟩ = some (.int .i64 a)) (first | exact ⟨by assumption, by assumption⟩ | go_keep) ((go_at_call 32; (with_reducible refine (hK0 _).mono ?_); rintro e w1 ⟨rfl, hb_⟩; have H1 := Lib.hid (show Rd w0 w1 g d a ts false from by first | exact H.out.below hb_ | exact (H.out.drewN _).below hb_ | exact (H.out.drew).below hb_); have hd0 := H1.out.c0; have hd1 := H1.out.c1; clear hb_))
          go_wp2_with (first | (go_at_call 31; (with_reducible refine (hN _).mono ?_); rintro e w2 ⟨rfl, hb_⟩; have H2 := Lib.hid (show Rd w0 w2 g d a ts false from by first | exact H1.out.below hb_ | exact (H1.out.drewN _).below hb_ | exact (H1.out.drew).below hb_); have he0 := H2.out.c0; have he1 := H2.out.c1; clear hb_) | (go_at_call 32; (with_reducible refine (hKE _).mono ?_); rintro e w3 ⟨rfl, hb_⟩; have H3 := Lib.hid (show Rd w0 w3 g d a ts false from by first | exact H2.out.below hb_ | exact (H2.out.drewN _).below hb_ | exact (H2.out.drew).below hb_); have hf0 := H3.out.c0; have hf1 := H3.out.c1; clear hb_) | (go_at_call 68; (with_reducible refine (stands_c _ (by first | exact H3.out | exact H3.out.drewN _) Q _ (by omega)).mono ?_); rintro e w' ⟨rfl, n_, rfl⟩) | (go_at_call 32; (with_reducible refine (hKO _).mono ?_); rintro e w4 ⟨rfl, hb_⟩; have H4 := Lib.hid (show Rd w0 w4 g d a ts false from by first | exact H3.out.below hb_ | exact (H3.out.drewN _).below hb_ | exact (H3.out.drew).below hb_); have hg0 := H4.out.c0; have hg1 := H4.out.c1; clear hb_) | (go_at_call 68; (with_reducible refine (stands_c _ (by first | exact H4.out | exact H4.out.drewN _) O _ (by omega)).mono ?_); rintro e w' ⟨rfl, n_, rfl⟩))
          go_region_held3 (fun W => W.cell? ⟨g, 0, none⟩ = some (.string d)) (first | assumption | exact Rd.c0 (w0 := w0) (g := g) (d := d) (a := a) (ts := ts) (x := false) (by first | exact H4.out | exact H4.out.drewN _ | exact H4.out.drew | exact (H4.out.drewN _).drew | exact (H4.out.drewN _).drew.drewN _ | exact H4.out.drew.drewN _ | exact (H4.out.drewN _).drewN _) | go_keep) ((go_at_call 43; refine (HCx.out _ ?_).mono ?_; exact (Rd.bel (g := g) (d := d) (a := a) (ts := ts) (x := false) (by first | exact H4.out | exact H4.out.drewN _ | exact H4.out.drew | exact (H4.out.drewN _).drew | exact (H4.out.drewN _).drew.drewN _ | exact H4.out.drew.drewN _ | exact (H4.out.drewN _).drewN _)); rintro e w' ⟨rfl, n8, rfl⟩))
          go_wp2_with (first | (go_at_call 93; (with_reducible refine (hCo _).mono ?_); rintro e w' ⟨rfl, rfl⟩))
          go_region_held3 (fun W => W.cell? ⟨g, 0, none⟩ = some (.string d)) (first | assumption | exact Rd.c0 (w0 := w0) (g := g) (d := d) (a := a) (ts := ts) (x := false) (by first | exact H4.out | exact H4.out.drewN _ | exact H4.out.drew | exact (H4.out.drewN _).drew | exact (H4.out.drewN _).drew.drewN _ | exact H4.out.drew.drewN _ | exact (H4.out.drewN _).drewN _) | go_keep) (first | (go_at_call 88; refine (decode_c (w0 := w0) (g := g) (d := d) (a := a) (ts := ts) (x := false) _ ?_ C1 (by omega)).mono ?_; (first | exact H4.out | exact H4.out.drewN _ | exact H4.out.drew | exact (H4.out.drewN _).drew | exact (H4.out.drewN _).drew.drewN _ | exact H4.out.drew.drewN _ | exact (H4.out.drewN _).drewN _); rintro e w' ⟨rfl, hr⟩; have hc8 := hr.c0) | (go_at_call 86; refine (tell_c (w0 := w0) (g := g) (d := d) (a := a) (ts := ts) (x := false || decBad C1) _ (by assumption) 2 F _ _ _ hl).mono ?_; rintro e w' ⟨rfl, ht⟩; have hc9 := ht.c0))
          all_goals
            go_wp2
            first | go_end0 | ((try simp only [Exit.inBlock, Exit.then]); refine bodyPost_ret (results_none rfl _ _ _) rfl ?_)
            exact ⟨rfl, HS.out _ ht⟩
end Go.Proofs.Ytekkaoenabjeiaa.X
end
section
set_option linter.unusedVariables false
set_option linter.unusedSimpArgs false
namespace Go.Proofs.Ytekkaoenabjeiaa.X
open Go.RowKit Go.Proofs.Ytekkaoenabjeiaa Go.Proofs.Ytekkaoenabjeiaa.Q Go.Proofs.Ytekkaoenabjeiaa.P11 Go.Proofs.YtekkaoenabjeiaaW.PrintWords Go.Proofs.YtekkaoenabjeiaaW.PrintLast Go.Proofs.YtekkaoenabjeiaaW.PrintMore
variable {w0 W : World} {g : Nat} {d : ByteArray} {a : Int} {ts : List Tok} {x : Bool}
def attrsF (d : ByteArray) : Nat → Int → List Tok → Option (List Tok × Int)
  | 0, _, _ => none
  | n + 1, a, acc =>
    if standsB d (skipP d.data.toList a) ⟨#[62]⟩ = true then some (acc ++ [⟨3, skipP d.data.toList a, skipP d.data.toList a + 1, ⟨#[]⟩, ⟨#[]⟩⟩], skipP d.data.toList a + 1)
    else if standsB d (skipP d.data.toList a) ⟨#[47, 62]⟩ = true then some (acc ++ [⟨4, skipP d.data.toList a, skipP d.data.toList a + 2, ⟨#[]⟩, ⟨#[]⟩⟩], skipP d.data.toList a + 2)
    else match attrP d a with
      | some (new, a') => attrsF d n a' (acc ++ new)
      | none => none
def tagP (d : ByteArray) (a : Int) : Option (List Tok × Int) :=
  let E := nameEndP d.data.toList (a + 1)
  if E = a + 1 then none else attrsF d (d.size + 1) E [⟨1, a, E, partB d (a + 1) E, ⟨#[]⟩⟩]
theorem stands_room2 (d : ByteArray) (i : Int) (s : ByteArray) (h0 : 0 ≤ i) (hs : 0 < s.size) (h : standsB d i s = true) : i + s.size ≤ (d.size : Int) := by
  unfold standsB Lib.hasPrefix at h
  obtain ⟨t, ht⟩ := List.isPrefixOf_iff_prefix.1 h
  have := congrArg List.length ht
  rw [List.length_append, List.length_drop] at this
  rw [Lib.size_eq d, Lib.size_eq s]
  rw [Lib.size_eq s] at hs
  omega
theorem attr_room (d : ByteArray) (a : Int) (h0 : 0 ≤ a) (h1 : a ≤ (d.size : Int)) (new : List Tok) (a' : Int) (h : attrP d a = some (new, a')) : a < a' ∧ a' ≤ (d.size : Int) ∧ new.length = 1 := by
  have hsz : d.data.toList.length = d.size := (Lib.size_eq d).symm
  unfold attrP at h
  obtain ⟨F, hF⟩ : ∃ F, skipP d.data.toList a = F := ⟨_, rfl⟩
  obtain ⟨E, hE⟩ : ∃ E, nameEndP d.data.toList F = E := ⟨_, rfl⟩
  obtain ⟨Q, hQ⟩ : ∃ Q, skipP d.data.toList E = Q := ⟨_, rfl⟩
  obtain ⟨O, hO⟩ : ∃ O, skipP d.data.toList (Q + 1) = O := ⟨_, rfl⟩
  simp only [hF, hE, hQ, hO] at h
  have hF1 := skipP_in d.data.toList a (by omega) (by omega)
  rw [hF] at hF1
  have hE1 := nameEndP_in d.data.toList F (by omega) (by omega)
  rw [hE] at hE1
  have hQ1 := skipP_in d.data.toList E (by omega) (by omega)
  rw [hQ] at hQ1
  by_cases c1 : F = a
  · rw [if_pos c1] at h; cases h
  rw [if_neg c1] at h
  by_cases c2 : E = F
  · rw [if_pos c2] at h; cases h
  rw [if_neg c2] at h
  by_cases c3 : standsB d Q ⟨#[61]⟩ = false
  · rw [if_pos c3] at h; cases h
  rw [if_neg c3] at h
  have hr1 := stands_room d Q 61 (by omega) (by simpa using c3)
  have hO1 := skipP_in d.data.toList (Q + 1) (by omega) (by omega)
  rw [hO] at hO1
  by_cases c4 : standsB d O ⟨#[34]⟩ = false ∧ standsB d O ⟨#[39]⟩ = false
  · rw [if_pos c4] at h; cases h
  rw [if_neg c4] at h
  have hr2 : O < (d.size : Int) := by
    by_cases c : standsB d O ⟨#[34]⟩ = true
    · exact stands_room d O 34 (by omega) c
    · by_cases c' : standsB d O ⟨#[39]⟩ = true
      · exact stands_room d O 39 (by omega) c'
      · exact absurd ⟨by simpa using c, by simpa using c'⟩ c4
  have hsep : (partB d O (O + 1)).data.toList.length = 1 := by
    unfold partB
    rw [Lib.extract_data, List.length_take, List.length_drop]; omega
  obtain ⟨s, hs⟩ : ∃ s, (partB d O (O + 1)).data.toList = s := ⟨_, rfl⟩
  rw [hs] at h hsep
  by_cases c5 : (Lib.cut (d.data.toList.drop (O + 1).toNat) s).2.2 = false
  · rw [if_pos c5] at h; cases h
  rw [if_neg c5] at h
  by_cases c6 : 0 ≤ Lib.indexByte (Lib.cut (d.data.toList.drop (O + 1).toNat) s).1 60
  · rw [if_pos c6] at h; cases h
  rw [if_neg c6] at h
  have hcl : ((Lib.cut (d.data.toList.drop (O + 1).toNat) s).1.length : Int) + 1 ≤ ((d.data.toList.drop (O + 1).toNat).length : Int) := by
    unfold Lib.cut at c5 ⊢
    by_cases ci : 0 ≤ Lib.index (d.data.toList.drop (O + 1).toNat) s
    · rw [if_pos ci]
      have := Lib.index_room _ _ ci
      rw [List.length_take]; omega
    · rw [if_neg ci] at c5; exact absurd rfl c5
  rw [List.length_drop] at hcl
  cases hd : dec (Lib.cut (d.data.toList.drop (O + 1).toNat) s).1 with
  | none => rw [hd] at h; cases h
  | some v =>
    rw [hd] at h
    injection h with h
    injection h with h2 h3
    subst h3 h2
    refine ⟨by omega, by omega, rfl⟩
def ahead (d : ByteArray) (g : Nat) (w : World) : Nat := match w.cell? ⟨g, 1, none⟩, w.cell? ⟨g, 3, none⟩ with
  | some (.int _ a), some (.bool x) => if x then 0 else ((d.size : Int) - a).toNat + 1
  | _, _ => 0
theorem Rd.ahead_ (h : Rd w0 W g d a ts x) : ahead d g W = if x then 0 else ((d.size : Int) - a).toNat + 1 := by
  unfold ahead
  rw [h.c1, h.c3]
def TagRel (d : ByteArray) (P : Option (List Tok × Int)) (a : Int) (acc : List Tok) : Prop :=
  0 ≤ a ∧ a ≤ (d.size : Int) ∧ (acc.length : Int) ≤ a ∧ ∃ n : Nat, (d.size : Int) - a < n ∧ P = attrsF d n a acc
set_option maxHeartbeats 16000000 in
set_option maxRecDepth 100000 in
theorem tag_c (w : World) (h : Rd w0 w g d a ts false) (hG : G w0) (hl : ts.length ≤ 100000) (hs : d.size ≤ 800000) (h0 : 0 ≤ a) (h4 : a + 1 ≤ (d.size : Int)) :
    Calls Try.prog 72 #[.pointer (some ⟨g, 0, none⟩)] w fun e w' => e = .returned (.tuple #[]) ∧ Step w0 w' g d ts (tagP d a) := by
  have H := Lib.hid h
  have hsz : d.data.toList.length = d.size := (Lib.size_eq d).symm
  obtain ⟨E, hE⟩ : ∃ E, nameEndP d.data.toList (a + 1) = E := ⟨_, rfl⟩
  have hE1 := nameEndP_in d.data.toList (a + 1) (by omega) (by omega)
  rw [hE] at hE1
  have hN : ∀ W, Calls Try.prog 31 #[.string d, .int .i64 (a + 1)] W fun e w' => e = .returned (.int .i64 E) ∧ Below W.heap.size W w' := fun W => chars_NameEnd.calls d (a + 1) E W (by unfold chars_NameEnd.f; rw [if_pos (by omega), hE])
  obtain ⟨P, hP⟩ : ∃ P, tagP d a = P := ⟨_, rfl⟩
  rw [hP]
  unfold tagP at hP
  simp only [hE] at hP
  have hc0 := h.c0
  have hc1 := h.c1
  have hx0 := h.drew.c0
  have hx1 := h.drew.c1
  have hw : IntKind.i64.wrap (a + 1) = a + 1 := by rw [IntKind.wrap_i64]; omega
  have hla : ts.length ≤ 1000000 := by omega
  clear h
  by_cases c1 : E = a + 1
  · rw [if_pos c1] at hP
    subst hP
    have b1 : (E == a + 1) = true := by rw [c1]; exact beq_self_eq_true _
    have b2 := eq_true c1
    clear c1
    go_enter Try.func72, Try.ntmps72
    go_step3
    go_wp2
    go_region_held3 (fun W => W.cell? ⟨g, 0, none⟩ = some (.string d) ∧ W.cell? ⟨g, 1, none⟩ = some (.int .i64 a)) (first | exact ⟨by assumption, by assumption⟩ | go_keep) ((go_at_call 31; (with_reducible refine (hN _).mono ?_); rintro e w1 ⟨rfl, hb_⟩; have H1 := Lib.hid (show Rd w0 w1 g d a ts false from by first | exact H.out.below hb_ | exact (H.out.drewN _).below hb_ | exact (H.out.drew).below hb_); have hd0 := H1.out.c0; have hd1 := H1.out.c1; have hd3 := H1.out.c3; clear hb_))
    go_wp2_with ((go_at_call 85; (with_reducible refine (fails_c _ (by first | exact H1.out | exact H1.out.drewN _)).mono ?_); rintro e w' ⟨rfl, hf_⟩))
    (try rw [Exit.noGoto_ret])
    first | go_end0 | go_ret | ((try simp only [Exit.inBlock, Exit.then]); refine bodyPost_ret (results_none rfl _ _ _) rfl ?_)
    exact ⟨rfl, _, _, hf_⟩
  rw [if_neg c1] at hP
  have b1 : (E == a + 1) = false := beq_eq_false_iff_ne.2 c1
  have b2 := eq_false c1
  clear c1
  have g0 : decide (0 ≤ a + 1) = true := decide_eq_true (by omega)
  have g1 : decide (a + 1 ≤ E) = true := decide_eq_true (by omega)
  have g2 : decide (E ≤ (d.size : Int)) = true := decide_eq_true (by omega)
  have g0' := eq_true (show 0 ≤ a + 1 by omega)
  have g1' := eq_true (show a + 1 ≤ E by omega)
  have g2' := eq_true (show E ≤ (d.size : Int) by omega)
  have hT : TagRel d P E [⟨1, a, E, partB d (a + 1) E, ⟨#[]⟩⟩] := ⟨by omega, by omega, by simp; omega, ⟨d.size + 1, by omega, hP.symm⟩⟩
  have HT := Lib.hid hT
  clear hT hP
  go_enter Try.func72, Try.ntmps72
  go_step3
  go_wp2
  go_region_held3 (fun W => W.cell? ⟨g, 0, none⟩ = some (.string d) ∧ W.cell? ⟨g, 1, none⟩ = some (.int .i64 a)) (first | exact ⟨by assumption, by assumption⟩ | go_keep) ((go_at_call 31; (with_reducible refine (hN _).mono ?_); rintro e w1 ⟨rfl, hb_⟩; have H1 := Lib.hid (show Rd w0 w1 g d a ts false from by first | exact H.out.below hb_ | exact (H.out.drewN _).below hb_ | exact (H.out.drew).below hb_); have hd0 := H1.out.c0; have hd1 := H1.out.c1; have hd3 := H1.out.c3; clear hb_))
  go_wp2
  have hy0 := H1.out.drew.c0
  have hy1 := H1.out.drew.c1
  go_region_with (go_at_call 86; refine (tell_c (w0 := w0) (g := g) (d := d) (a := a) (ts := ts) (x := false) _ (by first | exact H1.out.drewN _ | exact H1.out.drew | exact (H1.out.drewN _).drew | exact H1.out) 1 a _ _ _ hla).mono ?_; rintro e w' ⟨rfl, hr⟩; have hc9 := hr.c0)
  all_goals
    go_wp2
    (try go_step3)
    go_wp2
    have H2 := Lib.hid hr
    clear hr
    go_loopw [3] (fun t wr => (Hid (P = none) ∧ ∃ p ts', Hid (Rd w0 wr g d p ts' true)) ∨ (∃ p acc, Hid (TagRel d P p acc) ∧ Hid (Rd w0 wr g d p (ts ++ acc) false))) (fun t wr => ahead d g wr)
    case atStart => exact .inr ⟨_, _, HT, H2⟩
    case round =>
      clear H2 HT
      rcases hrel with ⟨hPn, p, ts', HR⟩ | ⟨p, acc, hRel, HR⟩
      · have hc3 := HR.out.c3
        go_wp2
        first | go_end0 | go_ret | (simp only [Exit.noGoto]; go_end0) | (simp only [Exit.noGoto]; refine bodyPost_ret (results_none rfl _ _ _) rfl ?_) | ((try rw [Exit.noGoto_ret]); (try simp only [Exit.inBlock, Exit.then]); refine bodyPost_ret (results_none rfl _ _ _) rfl ?_)
        exact ⟨rfl, by rw [hPn.out]; exact ⟨_, _, HR.out⟩⟩
      · have hmeas := Lib.hid HR.out.ahead_
        obtain ⟨r1, r2, r3, n, hn, hPn⟩ := hRel.out
        have hc3 := HR.out.c3
        have hz3 := HR.out.drew.c3
        have hz0 := HR.out.drew.c0
        have hz1 := HR.out.drew.c1
        have hv0 := HR.out.c0
        have hv1 := HR.out.c1
        obtain ⟨I, hI⟩ : ∃ I, skipP d.data.toList p = I := ⟨_, rfl⟩
        have hI1 := skipP_in d.data.toList p r1 (by omega)
        rw [hI] at hI1
        have hK : ∀ W, Calls Try.prog 32 #[.string d, .int .i64 p] W fun e w' => e = .returned (.int .i64 I) ∧ Below W.heap.size W w' := fun W => chars_Skip.calls d p I W (by unfold chars_Skip.f; rw [if_pos (by omega), hI])
        cases n with
        | zero => omega
        | succ n =>
        unfold attrsF at hPn
        rw [hI] at hPn
        have hw5 : IntKind.i64.wrap (I + 1) = I + 1 := by rw [IntKind.wrap_i64]; omega
        have hw6 : IntKind.i64.wrap (I + 2) = I + 2 := by rw [IntKind.wrap_i64]; omega
        obtain ⟨s1, hS1⟩ : ∃ s, standsB d I ⟨#[62]⟩ = s := ⟨_, rfl⟩
        obtain ⟨s2, hS2⟩ : ∃ s, standsB d I ⟨#[47, 62]⟩ = s := ⟨_, rfl⟩
        rw [hS1, hS2] at hPn
        cases s1 with
        | true =>
          rw [if_pos rfl] at hPn
          subst hPn
          go_wp2
          go_region_held3 (fun W => W.cell? ⟨g, 0, none⟩ = some (.string d) ∧ W.cell? ⟨g, 1, none⟩ = some (.int .i64 p)) (first | exact ⟨by assumption, by assumption⟩ | go_keep) ((go_at_call 32; (with_reducible refine (hK _).mono ?_); rintro e w1 ⟨rfl, hb_⟩; have H3 := Lib.hid (show Rd w0 w1 g d p (ts ++ acc) false from by first | exact HR.out.below hb_ | exact (HR.out.drewN _).below hb_ | exact (HR.out.drew).below hb_); have he0 := H3.out.c0; have he1 := H3.out.c1; have he3 := H3.out.c3; clear hb_))
          go_wp2_with (first | (go_at_call 68; (with_reducible refine (stands_c _ (by first | exact H3.out | exact H3.out.drewN _ | exact (H3.out.drewN _).drewN _) I _ (by omega)).mono ?_); rintro e w' ⟨rfl, n_, rfl⟩) | (go_at_call 86; (with_reducible refine (tell_c (w0 := w0) (g := g) (d := d) (a := p) (ts := ts ++ acc) (x := false) _ (by first | exact H3.out | exact H3.out.drewN _ | exact (H3.out.drewN _).drewN _) 3 I _ _ _ (by rw [List.length_append]; omega)).mono ?_); rintro e w' ⟨rfl, ht⟩))
          first | go_end0 | go_ret | (simp only [Exit.noGoto]; go_end0) | (simp only [Exit.noGoto]; refine bodyPost_ret (results_none rfl _ _ _) rfl ?_) | ((try rw [Exit.noGoto_ret]); (try simp only [Exit.inBlock, Exit.then]); refine bodyPost_ret (results_none rfl _ _ _) rfl ?_)
          exact ⟨rfl, by rw [List.append_assoc] at ht; exact ht⟩
        | false =>
          rw [if_neg (by decide)] at hPn
          cases s2 with
          | true =>
            rw [if_pos rfl] at hPn
            subst hPn
            go_wp2
            go_region_held3 (fun W => W.cell? ⟨g, 0, none⟩ = some (.string d) ∧ W.cell? ⟨g, 1, none⟩ = some (.int .i64 p)) (first | exact ⟨by assumption, by assumption⟩ | go_keep) ((go_at_call 32; (with_reducible refine (hK _).mono ?_); rintro e w1 ⟨rfl, hb_⟩; have H3 := Lib.hid (show Rd w0 w1 g d p (ts ++ acc) false from by first | exact HR.out.below hb_ | exact (HR.out.drewN _).below hb_ | exact (HR.out.drew).below hb_); have he0 := H3.out.c0; have he1 := H3.out.c1; have he3 := H3.out.c3; clear hb_))
            go_wp2_with (first | (go_at_call 68; (with_reducible refine (stands_c _ (by first | exact H3.out | exact H3.out.drewN _ | exact (H3.out.drewN _).drewN _) I _ (by omega)).mono ?_); rintro e w' ⟨rfl, n_, rfl⟩) | (go_at_call 86; (with_reducible refine (tell_c (w0 := w0) (g := g) (d := d) (a := p) (ts := ts ++ acc) (x := false) _ (by first | exact H3.out | exact H3.out.drewN _ | exact (H3.out.drewN _).drewN _) 4 I _ _ _ (by rw [List.length_append]; omega)).mono ?_); rintro e w' ⟨rfl, ht⟩))
            first | go_end0 | go_ret | (simp only [Exit.noGoto]; go_end0) | (simp only [Exit.noGoto]; refine bodyPost_ret (results_none rfl _ _ _) rfl ?_) | ((try rw [Exit.noGoto_ret]); (try simp only [Exit.inBlock, Exit.then]); refine bodyPost_ret (results_none rfl _ _ _) rfl ?_)
            exact ⟨rfl, by rw [List.append_assoc] at ht; exact ht⟩
          | false =>
            rw [if_neg (by decide)] at hPn
            cases hA : attrP d p with
            | none =>
              rw [hA] at hPn
              subst hPn
              go_wp2
              go_region_held3 (fun W => W.cell? ⟨g, 0, none⟩ = some (.string d) ∧ W.cell? ⟨g, 1, none⟩ = some (.int .i64 p)) (first | exact ⟨by assumption, by assumption⟩ | go_keep) ((go_at_call 32; (with_reducible refine (hK _).mono ?_); rintro e w1 ⟨rfl, hb_⟩; have H3 := Lib.hid (show Rd w0 w1 g d p (ts ++ acc) false from by first | exact HR.out.below hb_ | exact (HR.out.drewN _).below hb_ | exact (HR.out.drew).below hb_); have he0 := H3.out.c0; have he1 := H3.out.c1; have he3 := H3.out.c3; clear hb_))
              go_wp2_with (first | (go_at_call 68; (with_reducible refine (stands_c _ (by first | exact H3.out | exact H3.out.drewN _ | exact (H3.out.drewN _).drewN _) I _ (by omega)).mono ?_); rintro e w' ⟨rfl, n_, rfl⟩) | (go_at_call 87; (with_reducible refine (attr_c (w0 := w0) (g := g) (d := d) (a := p) (ts := ts ++ acc) _ (by first | exact H3.out | exact H3.out.drewN _ | exact (H3.out.drewN _).drewN _) hG (by rw [List.length_append]; omega) (by omega) (by omega) (by omega)).mono ?_); rintro e w4 ⟨rfl, ht⟩))
              rw [hA] at ht
              obtain ⟨a', ts', ht⟩ := ht
              have HA := Lib.hid ht
              clear ht
              go_wp2
              go_roundw
              case rel => exact .inl ⟨Lib.hid (by first | trivial | rfl), _, _, HA⟩
              case measure => rw [hmeas.out, HA.out.ahead_]; simp only [Bool.false_eq_true, if_false, if_true]; omega
            | some v =>
              obtain ⟨new, a'⟩ := v
              rw [hA] at hPn
              have hroom := attr_room d p r1 r2 new a' hA
              go_wp2
              go_region_held3 (fun W => W.cell? ⟨g, 0, none⟩ = some (.string d) ∧ W.cell? ⟨g, 1, none⟩ = some (.int .i64 p)) (first | exact ⟨by assumption, by assumption⟩ | go_keep) ((go_at_call 32; (with_reducible refine (hK _).mono ?_); rintro e w1 ⟨rfl, hb_⟩; have H3 := Lib.hid (show Rd w0 w1 g d p (ts ++ acc) false from by first | exact HR.out.below hb_ | exact (HR.out.drewN _).below hb_ | exact (HR.out.drew).below hb_); have he0 := H3.out.c0; have he1 := H3.out.c1; have he3 := H3.out.c3; clear hb_))
              go_wp2_with (first | (go_at_call 68; (with_reducible refine (stands_c _ (by first | exact H3.out | exact H3.out.drewN _ | exact (H3.out.drewN _).drewN _) I _ (by omega)).mono ?_); rintro e w' ⟨rfl, n_, rfl⟩) | (go_at_call 87; (with_reducible refine (attr_c (w0 := w0) (g := g) (d := d) (a := p) (ts := ts ++ acc) _ (by first | exact H3.out | exact H3.out.drewN _ | exact (H3.out.drewN _).drewN _) hG (by rw [List.length_append]; omega) (by omega) (by omega) (by omega)).mono ?_); rintro e w4 ⟨rfl, ht⟩))
              rw [hA] at ht
              have HA := Lib.hid (show Rd w0 w4 g d a' (ts ++ (acc ++ new)) false by rw [← List.append_assoc]; exact ht)
              clear ht
              go_wp2
              go_roundw
              case rel => exact .inr ⟨_, _, Lib.hid ⟨by omega, hroom.2.1, by rw [List.length_append]; omega, ⟨n, by omega, hPn⟩⟩, HA⟩
              case measure => rw [hmeas.out, HA.out.ahead_]; simp only [Bool.false_eq_true, if_false, if_true]; omega
end Go.Proofs.Ytekkaoenabjeiaa.X
end
section
set_option linter.unusedVariables false
set_option linter.unusedSimpArgs false
namespace Go.Proofs.Ytekkaoenabjeiaa.X
open Go.RowKit Go.Proofs.Ytekkaoenabjeiaa Go.Proofs.Ytekkaoenabjeiaa.Q Go.Proofs.Ytekkaoenabjeiaa.P11 Go.Proofs.YtekkaoenabjeiaaW.PrintWords Go.Proofs.YtekkaoenabjeiaaW.PrintLast Go.Proofs.YtekkaoenabjeiaaW.PrintMore
def stepP (d : ByteArray) (a : Int) : Option (List Tok × Int) :=
  if standsB d a ⟨#[60, 33, 45, 45]⟩ = true then commentP d.data.toList a
  else if standsB d a ⟨#[60, 33, 91, 67, 68, 65, 84, 65, 91]⟩ = true then plainP d.data.toList a
  else if standsB d a ⟨#[60, 47]⟩ = true then closingP d a
  else if standsB d a ⟨#[60]⟩ = true then tagP d a
  else textP d.data.toList a
def lexF (d : ByteArray) : Nat → Int → List Tok → Option (List Tok)
  | 0, _, _ => none
  | n + 1, a, acc => if a < (d.size : Int) then (match stepP d a with
      | some (new, a') => lexF d n a' (acc ++ new)
      | none => none) else some acc
def lexO (d : ByteArray) : Option (List Tok) := lexF d (d.size + 1) 0 []
def lexV (d : ByteArray) : List Tok × Int :=
  if (65536 : Int) < (d.size : Int) then ([], 18)
  else if validL d.data.toList = false then ([], 15)
  else match lexO d with
    | some l => (l, 0)
    | none => ([], 15)
theorem attrsF_room (d : ByteArray) (b : Int) : ∀ (n : Nat) (a : Int) (acc r : List Tok) (a' : Int), 0 ≤ b → b < a → a ≤ (d.size : Int) → (acc.length : Int) ≤ a - b → attrsF d n a acc = some (r, a') → b < a' ∧ a' ≤ (d.size : Int) ∧ (r.length : Int) ≤ a' - b := by
  intro n
  induction n with
  | zero => intro a acc r a' _ _ _ _ h; cases h
  | succ n ih =>
    intro a acc r a' hb h0 h1 hl h
    have hsz : d.data.toList.length = d.size := (Lib.size_eq d).symm
    unfold attrsF at h
    obtain ⟨I, hI⟩ : ∃ I, skipP d.data.toList a = I := ⟨_, rfl⟩
    have hI1 := skipP_in d.data.toList a (by omega) (by omega)
    rw [hI] at hI1
    rw [hI] at h
    by_cases c1 : standsB d I ⟨#[62]⟩ = true
    · rw [if_pos c1] at h
      have := stands_room2 d I ⟨#[62]⟩ (by omega) (by decide) c1
      rw [show ((⟨#[62]⟩ : ByteArray).size : Int) = 1 from rfl] at this
      injection h with h; injection h with h2 h3
      subst h3 h2
      rw [List.length_append, List.length_singleton]
      omega
    rw [if_neg c1] at h
    by_cases c2 : standsB d I ⟨#[47, 62]⟩ = true
    · rw [if_pos c2] at h
      have := stands_room2 d I ⟨#[47, 62]⟩ (by omega) (by decide) c2
      rw [show ((⟨#[47, 62]⟩ : ByteArray).size : Int) = 2 from rfl] at this
      injection h with h; injection h with h2 h3
      subst h3 h2
      rw [List.length_append, List.length_singleton]
      omega
    rw [if_neg c2] at h
    cases hA : attrP d a with
    | none => rw [hA] at h; cases h
    | some v =>
      obtain ⟨new, p⟩ := v
      rw [hA] at h
      have hr := attr_room d a (by omega) h1 new p hA
      exact ih p (acc ++ new) r a' hb (by omega) hr.2.1 (by rw [List.length_append]; omega) h
theorem hasPrefix_room (l s : List UInt8) (h : Lib.hasPrefix l s = true) : s.length ≤ l.length := by
  unfold Lib.hasPrefix at h
  obtain ⟨t, ht⟩ := List.isPrefixOf_iff_prefix.1 h
  have := congrArg List.length ht
  rw [List.length_append] at this; omega
theorem step_room (d : ByteArray) (a : Int) (h0 : 0 ≤ a) (h1 : a < (d.size : Int)) (new : List Tok) (a' : Int) (h : stepP d a = some (new, a')) : a < a' ∧ a' ≤ (d.size : Int) ∧ (new.length : Int) ≤ a' - a := by
  have hsz : d.data.toList.length = d.size := (Lib.size_eq d).symm
  unfold stepP at h
  by_cases c1 : standsB d a ⟨#[60, 33, 45, 45]⟩ = true
  · rw [if_pos c1] at h
    unfold commentP at h
    obtain ⟨i, hi⟩ : ∃ i, Lib.index (d.data.toList.drop (a.toNat + 4)) [45, 45] = i := ⟨_, rfl⟩
    simp only [hi] at h
    by_cases c : i < 0
    · rw [if_pos c] at h; cases h
    rw [if_neg c] at h
    by_cases c' : Lib.hasPrefix ((d.data.toList.drop (a.toNat + 4)).drop i.toNat) [45, 45, 62] = true
    · rw [if_pos c'] at h
      have := hasPrefix_room _ _ c'
      rw [List.length_drop, List.length_drop] at this
      simp only [List.length_cons, List.length_nil] at this
      injection h with h; injection h with h2 h3
      subst h3 h2
      refine ⟨by omega, by omega, by simp; omega⟩
    · rw [if_neg c'] at h; cases h
  rw [if_neg c1] at h
  by_cases c2 : standsB d a ⟨#[60, 33, 91, 67, 68, 65, 84, 65, 91]⟩ = true
  · rw [if_pos c2] at h
    unfold plainP at h
    by_cases c : (Lib.cut (d.data.toList.drop (a.toNat + 9)) [93, 93, 62]).2.2 = true
    · simp only [c, if_true] at h
      have hcl : ((Lib.cut (d.data.toList.drop (a.toNat + 9)) [93, 93, 62]).1.length : Int) + 3 ≤ ((d.data.toList.drop (a.toNat + 9)).length : Int) := by
        unfold Lib.cut at c ⊢
        by_cases ci : 0 ≤ Lib.index (d.data.toList.drop (a.toNat + 9)) [93, 93, 62]
        · rw [if_pos ci]
          have := Lib.index_room _ _ ci
          simp only [List.length_cons, List.length_nil] at this
          rw [List.length_take]; omega
        · rw [if_neg ci] at c; cases c
      rw [List.length_drop] at hcl
      injection h with h; injection h with h2 h3
      subst h3 h2
      refine ⟨by omega, by omega, by simp; omega⟩
    · simp only [c] at h; cases h
  rw [if_neg c2] at h
  by_cases c3 : standsB d a ⟨#[60, 47]⟩ = true
  · rw [if_pos c3] at h
    have hr := stands_room2 d a ⟨#[60, 47]⟩ h0 (by decide) c3
    rw [show ((⟨#[60, 47]⟩ : ByteArray).size : Int) = 2 from rfl] at hr
    unfold closingP at h
    obtain ⟨E, hE⟩ : ∃ E, nameEndP d.data.toList (a + 2) = E := ⟨_, rfl⟩
    obtain ⟨T, hT⟩ : ∃ T, skipP d.data.toList E = T := ⟨_, rfl⟩
    have hE1 := nameEndP_in d.data.toList (a + 2) (by omega) (by omega)
    rw [hE] at hE1
    have hT1 := skipP_in d.data.toList E (by omega) (by omega)
    rw [hT] at hT1
    simp only [hE, hT] at h
    by_cases c : E = a + 2
    · rw [if_pos c] at h; cases h
    rw [if_neg c] at h
    by_cases c' : standsB d T ⟨#[62]⟩ = true
    · rw [if_pos c'] at h
      have := stands_room d T 62 (by omega) c'
      injection h with h; injection h with h2 h3
      subst h3 h2
      refine ⟨by omega, by omega, by simp; omega⟩
    · rw [if_neg c'] at h; cases h
  rw [if_neg c3] at h
  by_cases c4 : standsB d a ⟨#[60]⟩ = true
  · rw [if_pos c4] at h
    unfold tagP at h
    obtain ⟨E, hE⟩ : ∃ E, nameEndP d.data.toList (a + 1) = E := ⟨_, rfl⟩
    have hE1 := nameEndP_in d.data.toList (a + 1) (by omega) (by omega)
    rw [hE] at hE1
    simp only [hE] at h
    by_cases c : E = a + 1
    · rw [if_pos c] at h; cases h
    rw [if_neg c] at h
    exact attrsF_room d a _ _ _ _ _ h0 (by omega) (by omega) (by simp; omega) h
  rw [if_neg c4] at h
  unfold textP at h
  obtain ⟨b, hb⟩ : ∃ b, (Lib.cut (d.data.toList.drop a.toNat) [60]).1 = b := ⟨_, rfl⟩
  simp only [hb] at h
  have hble : b.length ≤ (d.data.toList.drop a.toNat).length := by rw [← hb]; exact cut_le _ _
  rw [List.length_drop] at hble
  have hb1 : 1 ≤ b.length := by
    have hlt : a.toNat < d.data.toList.length := by omega
    have hcons := List.drop_eq_getElem_cons hlt
    have hne : ¬ d.data.toList[a.toNat] = 60 := by
      intro e
      apply c4
      unfold standsB Lib.hasPrefix
      rw [hcons, e]
      simp [List.isPrefixOf]
    rw [← hb]
    unfold Lib.cut
    rw [Lib.index_one]
    by_cases ci : 0 ≤ Lib.indexByte (d.data.toList.drop a.toNat) 60
    · rw [if_pos ci]
      obtain ⟨t, ht⟩ := ((indexByte_split (d.data.toList.drop a.toNat) 60).2 ci).2
      by_cases c0 : (Lib.indexByte (d.data.toList.drop a.toNat) 60).toNat = 0
      · rw [c0, List.drop_zero, hcons] at ht
        injection ht with ht _
        exact absurd ht hne
      · have := congrArg List.length ht
        rw [List.length_drop, List.length_cons, List.length_drop] at this
        show 1 ≤ ((d.data.toList.drop a.toNat).take _).length
        rw [List.length_take, List.length_drop]; omega
    · rw [if_neg ci]
      show 1 ≤ (d.data.toList.drop a.toNat).length
      rw [List.length_drop]; omega
  cases hd : dec b with
  | none => rw [hd] at h; cases h
  | some v =>
    rw [hd] at h
    injection h with h; injection h with h2 h3
    subst h3 h2
    refine ⟨by omega, by omega, by simp; omega⟩
end Go.Proofs.Ytekkaoenabjeiaa.X
end
section
set_option linter.unusedVariables false
set_option linter.unusedSimpArgs false
namespace Go.Proofs.Ytekkaoenabjeiaa.P12
open Go Go.RowKit Go.Proofs.Ytekkaoenabjeiaa Go.Proofs.Ytekkaoenabjeiaa.Q Go.Proofs.YtekkaoenabjeiaaW.PrintWords Go.Proofs.Ytekkaoenabjeiaa.X Go.Proofs.Ytekkaoenabjeiaa.P11
def opens (k : Int) : Bool := k == 1 || k == 2
def inTag (k : Int) : Bool := k == 2 || k == 3 || k == 4
def Seg (l : List UInt8) : Int → Bool → List Tok → Int → Bool → Prop
  | a, x, [], b, y => a = b ∧ x = y
  | a, x, t :: r, b, y => a ≤ t.f1 ∧ t.f1 < t.f2 ∧ t.f2 ≤ l.length ∧ (∀ n : Nat, a ≤ n → (n : Int) < t.f1 → spaceB (l.getD n 0) = true ∧ x = true) ∧ x = inTag t.f0 ∧ Seg l t.f2 (opens t.f0) r b y
theorem Seg.append {l : List UInt8} : ∀ {r1 r2 : List Tok} {a b c : Int} {x y z : Bool}, Seg l a x r1 b y → Seg l b y r2 c z → Seg l a x (r1 ++ r2) c z
  | [], r2, a, b, c, x, y, z, h1, h2 => by
    obtain ⟨rfl, rfl⟩ := h1
    exact h2
  | t :: r1, r2, a, b, c, x, y, z, h1, h2 => by
    obtain ⟨e1, e2, e3, e4, e5, e6⟩ := h1
    exact ⟨e1, e2, e3, e4, e5, Seg.append e6 h2⟩
theorem Seg.one {l : List UInt8} {t : Tok} {a b : Int} {x : Bool} (h1 : t.f1 = a) (h2 : t.f2 = b) (h3 : a < b) (h4 : b ≤ l.length) (h5 : x = inTag t.f0) : Seg l a x [t] b (opens t.f0) := by
  refine ⟨by omega, by omega, by omega, fun n c1 c2 => by omega, h5, h2, rfl⟩
theorem skip_spaces (l : List UInt8) (a : Int) (h0 : 0 ≤ a) (n : Nat) (h1 : a ≤ n) (h2 : (n : Int) < skipP l a) : spaceB (l.getD n 0) = true := by
  unfold skipP at h2
  split at h2
  · rename_i hc
    have hk : n - a.toNat < ((l.drop a.toNat).takeWhile spaceB).length := by omega
    have hm : ((l.drop a.toNat).takeWhile spaceB)[n - a.toNat] ∈ (l.drop a.toNat).takeWhile spaceB := List.getElem_mem hk
    have hs := List.all_eq_true.1 (List.all_takeWhile (p := spaceB) (l := l.drop a.toNat)) _ hm
    have hle := takeWhile_le spaceB (l.drop a.toNat)
    rw [List.length_drop] at hle
    have hpre : (l.drop a.toNat).takeWhile spaceB <+: l.drop a.toNat := List.takeWhile_prefix spaceB
    have he := hpre.getElem hk
    rw [he, List.getElem_drop] at hs
    rw [List.getD_eq_getElem?_getD, List.getElem?_eq_getElem (by omega)]
    simp only [Option.getD_some]
    have hidx : a.toNat + (n - a.toNat) = n := by omega
    simp only [hidx] at hs
    exact hs
  · omega
theorem Seg.tag {l : List UInt8} {t : Tok} {a b : Int} (h0 : 0 ≤ a) (ha : a ≤ l.length) (h1 : t.f1 = skipP l a) (h2 : t.f2 = b) (h3 : skipP l a < b) (h4 : b ≤ l.length) (h5 : inTag t.f0 = true) : Seg l a true [t] b (opens t.f0) := by
  have := skipP_in l a h0 ha
  refine ⟨by omega, by omega, by omega, fun n c1 c2 => ⟨skip_spaces l a h0 n c1 (by omega), rfl⟩, h5.symm, h2, rfl⟩
theorem attr_seg (d : ByteArray) (a : Int) (h0 : 0 ≤ a) (h1 : a ≤ (d.size : Int)) (new : List Tok) (a' : Int) (h : attrP d a = some (new, a')) : Seg d.data.toList a true new a' true := by
  have hroom := attr_room d a h0 h1 new a' h
  have hsz : d.data.toList.length = d.size := (Lib.size_eq d).symm
  unfold attrP at h
  obtain ⟨F, hF⟩ : ∃ F, skipP d.data.toList a = F := ⟨_, rfl⟩
  obtain ⟨E, hE⟩ : ∃ E, nameEndP d.data.toList F = E := ⟨_, rfl⟩
  obtain ⟨Q, hQ⟩ : ∃ Q, skipP d.data.toList E = Q := ⟨_, rfl⟩
  obtain ⟨O, hO⟩ : ∃ O, skipP d.data.toList (Q + 1) = O := ⟨_, rfl⟩
  simp only [hF, hE, hQ, hO] at h
  have hF1 := skipP_in d.data.toList a (by omega) (by omega)
  rw [hF] at hF1
  have hE1 := nameEndP_in d.data.toList F (by omega) (by omega)
  rw [hE] at hE1
  have hQ1 := skipP_in d.data.toList E (by omega) (by omega)
  rw [hQ] at hQ1
  by_cases c1 : F = a
  · rw [if_pos c1] at h; cases h
  rw [if_neg c1] at h
  by_cases c2 : E = F
  · rw [if_pos c2] at h; cases h
  rw [if_neg c2] at h
  by_cases c3 : standsB d Q ⟨#[61]⟩ = false
  · rw [if_pos c3] at h; cases h
  rw [if_neg c3] at h
  have hr1 := stands_room d Q 61 (by omega) (by simpa using c3)
  have hO1 := skipP_in d.data.toList (Q + 1) (by omega) (by omega)
  rw [hO] at hO1
  by_cases c4 : standsB d O ⟨#[34]⟩ = false ∧ standsB d O ⟨#[39]⟩ = false
  · rw [if_pos c4] at h; cases h
  rw [if_neg c4] at h
  obtain ⟨c, hc⟩ : ∃ c, Lib.cut (d.data.toList.drop (O + 1).toNat) (partB d O (O + 1)).data.toList = c := ⟨_, rfl⟩
  rw [hc] at h
  by_cases c5 : c.2.2 = false
  · rw [if_pos c5] at h; cases h
  rw [if_neg c5] at h
  by_cases c6 : 0 ≤ Lib.indexByte c.1 60
  · rw [if_pos c6] at h; cases h
  rw [if_neg c6] at h
  cases hd : dec c.1 with
  | none => rw [hd] at h; cases h
  | some v =>
    rw [hd] at h
    injection h with h
    injection h with h2 h3
    subst h3 h2
    exact Seg.tag h0 (by omega) hF.symm rfl (by omega) (by omega) rfl
theorem attrs_seg (d : ByteArray) : ∀ (n : Nat) (a : Int) (acc r : List Tok) (a' : Int), 0 ≤ a → a ≤ (d.size : Int) → attrsF d n a acc = some (r, a') → ∃ r', r = acc ++ r' ∧ Seg d.data.toList a true r' a' false := by
  intro n
  induction n with
  | zero => intro a acc r a' _ _ h; cases h
  | succ n ih =>
    intro a acc r a' h0 h1 h
    have hsz : d.data.toList.length = d.size := (Lib.size_eq d).symm
    unfold attrsF at h
    obtain ⟨I, hI⟩ : ∃ I, skipP d.data.toList a = I := ⟨_, rfl⟩
    have hI1 := skipP_in d.data.toList a (by omega) (by omega)
    rw [hI] at hI1
    rw [hI] at h
    by_cases c1 : standsB d I ⟨#[62]⟩ = true
    · rw [if_pos c1] at h
      have := stands_room2 d I ⟨#[62]⟩ (by omega) (by decide) c1
      rw [show ((⟨#[62]⟩ : ByteArray).size : Int) = 1 from rfl] at this
      injection h with h; injection h with h2 h3
      subst h3 h2
      exact ⟨_, rfl, Seg.tag h0 (by omega) hI.symm rfl (by omega) (by omega) rfl⟩
    rw [if_neg c1] at h
    by_cases c2 : standsB d I ⟨#[47, 62]⟩ = true
    · rw [if_pos c2] at h
      have := stands_room2 d I ⟨#[47, 62]⟩ (by omega) (by decide) c2
      rw [show ((⟨#[47, 62]⟩ : ByteArray).size : Int) = 2 from rfl] at this
      injection h with h; injection h with h2 h3
      subst h3 h2
      exact ⟨_, rfl, Seg.tag h0 (by omega) hI.symm rfl (by omega) (by omega) rfl⟩
    rw [if_neg c2] at h
    cases hA : attrP d a with
    | none => rw [hA] at h; cases h
    | some v =>
      obtain ⟨new, p⟩ := v
      rw [hA] at h
      have hr := attr_room d a (by omega) h1 new p hA
      obtain ⟨r', e, hs⟩ := ih p (acc ++ new) r a' (by omega) hr.2.1 h
      exact ⟨new ++ r', by rw [e, List.append_assoc], (attr_seg d a h0 h1 new p hA).append hs⟩
theorem step_seg (d : ByteArray) (a : Int) (h0 : 0 ≤ a) (h1 : a < (d.size : Int)) (new : List Tok) (a' : Int) (h : stepP d a = some (new, a')) : Seg d.data.toList a false new a' false := by
  have hroom := step_room d a h0 h1 new a' h
  have hsz : d.data.toList.length = d.size := (Lib.size_eq d).symm
  unfold stepP at h
  by_cases c1 : standsB d a ⟨#[60, 33, 45, 45]⟩ = true
  · rw [if_pos c1] at h
    unfold commentP at h
    obtain ⟨i, hi⟩ : ∃ i, Lib.index (d.data.toList.drop (a.toNat + 4)) [45, 45] = i := ⟨_, rfl⟩
    simp only [hi] at h
    by_cases c : i < 0
    · rw [if_pos c] at h; cases h
    rw [if_neg c] at h
    by_cases c' : Lib.hasPrefix ((d.data.toList.drop (a.toNat + 4)).drop i.toNat) [45, 45, 62] = true
    · rw [if_pos c'] at h
      injection h with h; injection h with h2 h3
      subst h3 h2
      exact Seg.one rfl rfl (by omega) (by omega) rfl
    · rw [if_neg c'] at h; cases h
  rw [if_neg c1] at h
  by_cases c2 : standsB d a ⟨#[60, 33, 91, 67, 68, 65, 84, 65, 91]⟩ = true
  · rw [if_pos c2] at h
    unfold plainP at h
    by_cases c : (Lib.cut (d.data.toList.drop (a.toNat + 9)) [93, 93, 62]).2.2 = true
    · simp only [c, if_true] at h
      injection h with h; injection h with h2 h3
      subst h3 h2
      exact Seg.one rfl rfl (by omega) (by omega) rfl
    · simp only [c] at h; cases h
  rw [if_neg c2] at h
  by_cases c3 : standsB d a ⟨#[60, 47]⟩ = true
  · rw [if_pos c3] at h
    unfold closingP at h
    obtain ⟨E, hE⟩ : ∃ E, nameEndP d.data.toList (a + 2) = E := ⟨_, rfl⟩
    obtain ⟨T, hT⟩ : ∃ T, skipP d.data.toList E = T := ⟨_, rfl⟩
    simp only [hE, hT] at h
    by_cases c : E = a + 2
    · rw [if_pos c] at h; cases h
    rw [if_neg c] at h
    by_cases c' : standsB d T ⟨#[62]⟩ = true
    · rw [if_pos c'] at h
      injection h with h; injection h with h2 h3
      subst h3 h2
      exact Seg.one rfl rfl (by omega) (by omega) rfl
    · rw [if_neg c'] at h; cases h
  rw [if_neg c3] at h
  by_cases c4 : standsB d a ⟨#[60]⟩ = true
  · rw [if_pos c4] at h
    unfold tagP at h
    obtain ⟨E, hE⟩ : ∃ E, nameEndP d.data.toList (a + 1) = E := ⟨_, rfl⟩
    have hE1 := nameEndP_in d.data.toList (a + 1) (by omega) (by omega)
    rw [hE] at hE1
    simp only [hE] at h
    by_cases c : E = a + 1
    · rw [if_pos c] at h; cases h
    rw [if_neg c] at h
    obtain ⟨r', e, hs⟩ := attrs_seg d _ _ _ _ _ (by omega) (by omega) h
    rw [e]
    exact Seg.append (Seg.one (t := ⟨1, a, E, partB d (a + 1) E, ⟨#[]⟩⟩) (b := E) rfl rfl (by omega) (by omega) rfl) hs
  rw [if_neg c4] at h
  unfold textP at h
  obtain ⟨b, hb⟩ : ∃ b, (Lib.cut (d.data.toList.drop a.toNat) [60]).1 = b := ⟨_, rfl⟩
  simp only [hb] at h
  cases hd : dec b with
  | none => rw [hd] at h; cases h
  | some v =>
    rw [hd] at h
    injection h with h; injection h with h2 h3
    subst h3 h2
    exact Seg.one rfl rfl (by omega) (by omega) rfl
theorem lexF_seg (s : ByteArray) (n : Nat) : ∀ (a : Int) (acc l : List Tok), 0 ≤ a → a ≤ (s.size : Int) → lexF s n a acc = some l → ∃ r, l = acc ++ r ∧ Seg s.data.toList a false r s.size false := by
  induction n with
  | zero => intro a acc l _ _ h; cases h
  | succ n ih =>
    intro a acc l h0 h1 h
    unfold lexF at h
    by_cases hlt : a < (s.size : Int)
    · rw [if_pos hlt] at h
      cases hS : stepP s a with
      | none => rw [hS] at h; cases h
      | some v =>
        obtain ⟨new, a'⟩ := v
        rw [hS] at h
        have hroom := step_room s a h0 hlt new a' hS
        obtain ⟨r, e, hs⟩ := ih a' (acc ++ new) l (by omega) hroom.2.1 h
        exact ⟨new ++ r, by rw [e, List.append_assoc], (step_seg s a h0 hlt new a' hS).append hs⟩
    · rw [if_neg hlt] at h
      obtain rfl := Option.some.inj h
      exact ⟨[], by simp, by omega, rfl⟩
theorem lexV_seg (s : ByteArray) (h : (lexV s).2 = 0) : Seg s.data.toList 0 false (lexV s).1 s.size false := by
  unfold lexV at h ⊢
  split
  · rename_i c; rw [if_pos c] at h; cases h
  · rename_i c
    rw [if_neg c] at h
    split
    · rename_i c'; rw [if_pos c'] at h; cases h
    · rename_i c'
      rw [if_neg c'] at h
      cases ho : lexO s with
      | none => rw [ho] at h; cases h
      | some l =>
        obtain ⟨r, e, hs⟩ := lexF_seg s _ 0 [] l (by omega) (by omega) ho
        rw [List.nil_append] at e
        subst e
        exact hs
theorem lexV_bad (s : ByteArray) (h : ¬ (lexV s).2 = 0) : (lexV s).1 = [] := by
  unfold lexV at h ⊢
  split
  · rfl
  · rename_i c
    rw [if_neg c] at h
    split
    · rfl
    · rename_i c'
      rw [if_neg c'] at h
      cases ho : lexO s with
      | none => rfl
      | some l => rw [ho] at h; exact absurd rfl h
end Go.Proofs.Ytekkaoenabjeiaa.P12
end
section
set_option linter.unusedVariables false
set_option linter.unusedSimpArgs false
namespace Go.Proofs.Ytekkaoenabjeiaa.P12
open Go Go.RowKit Go.Proofs.Ytekkaoenabjeiaa Go.Proofs.Ytekkaoenabjeiaa.Q Go.Proofs.YtekkaoenabjeiaaW.PrintWords Go.Proofs.Ytekkaoenabjeiaa.X Go.Proofs.Ytekkaoenabjeiaa.P11
def signB (b : UInt8) : Bool := b == 38 || b == 60 || b == 62 || b == 34
theorem esc_sign (b : UInt8) (h : signB b = true) : b = 38 ∨ b = 60 ∨ b = 62 ∨ b = 34 := by
  unfold signB at h
  simp only [Bool.or_eq_true, beq_iff_eq] at h
  rcases h with ((h | h) | h) | h
  · exact Or.inl h
  · exact Or.inr (Or.inl h)
  · exact Or.inr (Or.inr (Or.inl h))
  · exact Or.inr (Or.inr (Or.inr h))
theorem esc_same (b : UInt8) (h : signB b = false) : escB b = [b] ∧ ¬ b = 38 ∧ ¬ b = 60 := by
  unfold signB at h
  simp only [Bool.or_eq_false_iff, beq_eq_false_iff_ne, ne_eq] at h
  unfold escB
  rw [if_neg h.1.1.1, if_neg h.1.1.2, if_neg h.1.2, if_neg h.2]
  exact ⟨rfl, h.1.1.1, h.1.1.2⟩
theorem escL_cons (b : UInt8) (t : List UInt8) : escL (b :: t) = escB b ++ escL t := by simp [escL]
theorem escL_nil : escL [] = [] := rfl
theorem dec_esc : ∀ l : List UInt8, dec (escL l) = some l
  | [] => rfl
  | b :: t => by
    rw [escL_cons]
    cases h : signB b with
    | true =>
      have hent : ∀ r, entL (escB b ++ r) = ([b], ((escB b).length : Int)) := by
        intro r
        rcases esc_sign b h with rfl | rfl | rfl | rfl <;> rfl
      have hcons : ∃ r, escB b = 38 :: r := by
        rcases esc_sign b h with rfl | rfl | rfl | rfl
        · exact ⟨_, rfl⟩
        · exact ⟨_, rfl⟩
        · exact ⟨_, rfl⟩
        · exact ⟨_, rfl⟩
      obtain ⟨r, hr⟩ := hcons
      have he := hent (escL t)
      rw [hr] at he ⊢
      rw [List.cons_append] at he ⊢
      rw [dec_amp, he, if_neg (by rw [List.length_cons]; omega)]
      show (dec (List.drop ((38 :: r).length : Int).toNat (38 :: (r ++ escL t)))).map _ = _
      rw [Int.toNat_natCast, ← List.cons_append, List.drop_left, dec_esc t]
      rfl
    | false =>
      obtain ⟨h1, h2, h3⟩ := esc_same b h
      rw [h1, List.singleton_append, dec_cons _ _ h2, dec_esc t]
      rfl
theorem esc_no_less : ∀ (l : List UInt8) (c : UInt8), c ∈ escL l → ¬ c = 60
  | [], c, h => by cases h
  | b :: t, c, h => by
    rw [escL_cons] at h
    rcases List.mem_append.1 h with h | h
    · cases hs : signB b with
      | true =>
        rcases esc_sign b hs with rfl | rfl | rfl | rfl
        · intro e; subst e; exact absurd h (by decide)
        · intro e; subst e; exact absurd h (by decide)
        · intro e; subst e; exact absurd h (by decide)
        · intro e; subst e; exact absurd h (by decide)
      | false =>
        obtain ⟨h1, h2, h3⟩ := esc_same b hs
        rw [h1] at h
        rw [List.mem_singleton.1 h]; exact h3
    · exact esc_no_less t c h
theorem enc_high (c : Int) (hp : pointB c = true) (h : 128 ≤ c) : ∀ x, x ∈ encL c → 128 ≤ x.toNat := by
  have hr := point_range hp
  unfold encL
  rw [if_pos hp, if_neg (by omega)]
  have b := byteI_nat
  intro x hx
  split at hx
  · simp only [List.mem_cons, List.not_mem_nil, or_false] at hx
    rcases hx with rfl | rfl
    · have := byteI_nat (192 + c / 64) (by omega) (by omega); omega
    · have := byteI_nat (128 + c % 64) (by omega) (by omega); omega
  split at hx
  · simp only [List.mem_cons, List.not_mem_nil, or_false] at hx
    rcases hx with rfl | rfl | rfl
    · have := byteI_nat (224 + c / 4096) (by omega) (by omega); omega
    · have := byteI_nat (128 + c / 64 % 64) (by omega) (by omega); omega
    · have := byteI_nat (128 + c % 64) (by omega) (by omega); omega
  · simp only [List.mem_cons, List.not_mem_nil, or_false] at hx
    rcases hx with rfl | rfl | rfl | rfl
    · have := byteI_nat (240 + c / 262144) (by omega) (by omega); omega
    · have := byteI_nat (128 + c / 4096 % 64) (by omega) (by omega); omega
    · have := byteI_nat (128 + c / 64 % 64) (by omega) (by omega); omega
    · have := byteI_nat (128 + c % 64) (by omega) (by omega); omega
theorem enc_low (b : UInt8) (h : b.toNat < 128) : pointB (b.toNat : Int) = true ∧ encL (b.toNat : Int) = [b] := by
  have hp : pointB (b.toNat : Int) = true := by unfold pointB; simp; omega
  refine ⟨hp, ?_⟩
  unfold encL
  rw [if_pos hp, if_pos (by omega), byteI_eq _ b rfl]
theorem esc_high : ∀ (u t v : List UInt8), (∀ x, x ∈ u → 128 ≤ x.toNat) → escL t = u ++ v → ∃ v', t = u ++ v'
  | [], t, v, _, _ => ⟨t, rfl⟩
  | x :: u, t, v, hu, h => by
    have hx := hu x (List.mem_cons_self ..)
    cases t with
    | nil => rw [escL_nil] at h; cases h
    | cons b t =>
      rw [escL_cons] at h
      cases hs : signB b with
      | true =>
        exfalso
        have hc : ∃ r, escB b = 38 :: r := by
          rcases esc_sign b hs with rfl | rfl | rfl | rfl
          · exact ⟨_, rfl⟩
          · exact ⟨_, rfl⟩
          · exact ⟨_, rfl⟩
          · exact ⟨_, rfl⟩
        obtain ⟨r, hr⟩ := hc
        rw [hr, List.cons_append, List.cons_append] at h
        injection h with h1 _
        rw [← h1] at hx
        exact absurd hx (by decide)
      | false =>
        rw [(esc_same b hs).1, List.singleton_append, List.cons_append] at h
        injection h with h1 h2
        subst h1
        obtain ⟨v', hv⟩ := esc_high u t v (fun y hy => hu y (List.mem_cons_of_mem _ hy)) h2
        exact ⟨v', by rw [hv]; rfl⟩
theorem escL_high : ∀ (u t : List UInt8), (∀ x, x ∈ u → 128 ≤ x.toNat) → escL (u ++ t) = u ++ escL t
  | [], t, _ => rfl
  | x :: u, t, hu => by
    have hx := hu x (List.mem_cons_self ..)
    have hs : signB x = false := by
      cases h : signB x with
      | false => rfl
      | true => rcases esc_sign x h with rfl | rfl | rfl | rfl <;> exact absurd hx (by decide)
    rw [List.cons_append, escL_cons, (esc_same x hs).1, escL_high u t (fun y hy => hu y (List.mem_cons_of_mem _ hy))]
    rfl
theorem valid_bad (a : UInt8) (t : List UInt8) (h : (decL (a :: t)).2 = 0) : validL (a :: t) = false := by
  rw [valid_cons, h]; rfl
theorem valid_esc (n : Nat) : ∀ l : List UInt8, l.length ≤ n → validL (escL l) = validL l := by
  induction n with
  | zero =>
    intro l h
    have : l = [] := List.eq_nil_of_length_eq_zero (by omega)
    rw [this]; rfl
  | succ n ih =>
    intro l hl
    cases l with
    | nil => rfl
    | cons a t =>
      rw [List.length_cons] at hl
      by_cases hlow : a.toNat < 128
      · obtain ⟨hp, he⟩ := enc_low a hlow
        have h1 : validL (a :: t) = (allowedB (a.toNat : Int) && validL t) := by
          have := valid_enc _ hp t
          rw [he] at this
          exact this
        rw [h1, escL_cons]
        cases hs : signB a with
        | true =>
          have hv : validL (escB a) = true := by
            rcases esc_sign a hs with rfl | rfl | rfl | rfl <;> decide
          have ha : allowedB (a.toNat : Int) = true := by
            rcases esc_sign a hs with rfl | rfl | rfl | rfl <;> decide
          rw [valid_append _ _ hv, ha, ih t (by omega)]; rfl
        | false =>
          rw [(esc_same a hs).1]
          have := valid_enc _ hp (escL t)
          rw [he] at this
          rw [this, ih t (by omega)]
      · have hs : signB a = false := by
          cases h : signB a with
          | false => rfl
          | true => rcases esc_sign a h with rfl | rfl | rfl | rfl <;> exact absurd (by decide) hlow
        have hE : escL (a :: t) = a :: escL t := by rw [escL_cons, (esc_same a hs).1]; rfl
        by_cases h0 : (decL (a :: t)).2 = 0
        · rw [valid_bad a t h0, hE]
          apply valid_bad
          apply Classical.byContradiction
          intro h1
          obtain ⟨hp, hsz, u, hu⟩ := enc_dec (a :: escL t) h1
          obtain ⟨c, hc⟩ : ∃ c, (decL (a :: escL t)).1 = c := ⟨_, rfl⟩
          rw [hc] at hp hsz hu
          have hge : 128 ≤ c := by
            apply Classical.byContradiction
            intro hlt
            have hr := point_range hp
            have : encL c = [byteI c] := by unfold encL; rw [if_pos hp, if_pos (by omega)]
            rw [this] at hu
            injection hu with hu _
            have := byteI_nat c (by omega) (by omega)
            rw [← hu] at this; omega
          have hh := enc_high c hp hge
          obtain ⟨v', hv⟩ := esc_high (encL c) (a :: t) u hh (by rw [hE]; exact hu)
          rw [hv, dec_enc c hp v'] at h0
          have := sizeN_range c
          simp only at h0
          omega
        · obtain ⟨hp, hsz, u, hu⟩ := enc_dec (a :: t) h0
          obtain ⟨c, hc⟩ : ∃ c, (decL (a :: t)).1 = c := ⟨_, rfl⟩
          rw [hc] at hp hsz hu
          have hlen := enc_len c hp
          have hr := sizeN_range c
          have hge : 128 ≤ c := by
            apply Classical.byContradiction
            intro hlt
            have hr := point_range hp
            have : encL c = [byteI c] := by unfold encL; rw [if_pos hp, if_pos (by omega)]
            rw [this] at hu
            injection hu with hu _
            have := byteI_nat c (by omega) (by omega)
            rw [← hu] at this; omega
          have hh := enc_high c hp hge
          have hul := congrArg List.length hu
          rw [List.length_append, List.length_cons] at hul
          rw [hu, escL_high _ _ hh, valid_enc _ hp, valid_enc _ hp, ih u (by omega)]
theorem valid_ahead (asc : List UInt8) (ha : ∀ x, x ∈ asc → x.toNat < 128) (l s : List UInt8) (h : validL l = true) (e : l = s ++ asc) : validL s = true := by
  have := valid_ind (P := fun l => ∀ s, l = s ++ asc → validL s = true) (fun s h => by
      rw [(List.append_eq_nil_iff.1 h.symm).1]; rfl) (fun c t hp hc hv ih s h => by
      by_cases hle : (encL c).length ≤ s.length
      · obtain ⟨s', hs⟩ : encL c <+: s := List.prefix_of_prefix_length_le ⟨t, h⟩ ⟨asc, rfl⟩ hle
        subst hs
        rw [List.append_assoc] at h
        have := List.append_cancel_left h
        rw [valid_enc _ hp, hc, ih s' this]; rfl
      · cases s with
        | nil => rfl
        | cons b s =>
          exfalso
          obtain ⟨u, hu⟩ : (b :: s) <+: encL c := List.prefix_of_prefix_length_le ⟨asc, h.symm⟩ ⟨t, rfl⟩ (by omega)
          have hlen := enc_len c hp
          have hr := point_range hp
          have hge : 128 ≤ c := by
            apply Classical.byContradiction
            intro hlt
            have : encL c = [byteI c] := by unfold encL; rw [if_pos hp, if_pos (by omega)]
            rw [this] at hle
            simp at hle
          have hh := enc_high c hp hge
          cases u with
          | nil => rw [List.append_nil] at hu; rw [hu] at hle; omega
          | cons x u =>
            have hx := hh x (by rw [← hu]; simp)
            rw [← hu, List.append_assoc] at h
            have h2 := List.append_cancel_left h
            cases asc with
            | nil => cases h2
            | cons y asc =>
              rw [List.cons_append] at h2
              injection h2 with h2 _
              have := ha y (List.mem_cons_self ..)
              rw [← h2] at this; omega) l.length l (Nat.le_refl _) h
  exact this s e
theorem index_out (l : List UInt8) (h : ∀ c, c ∈ l → ¬ c = 60) : Lib.index l [60] = -1 := by
  apply Lib.index_none
  intro j _
  unfold Lib.occAt
  cases hd : l.drop j with
  | nil => rfl
  | cons c t =>
    have hm : c ∈ l := List.mem_of_mem_drop (by rw [hd]; exact List.mem_cons_self ..)
    have := h c hm
    simp only [List.isPrefixOf, Bool.and_eq_false_iff, beq_eq_false_iff_ne, ne_eq]
    exact Or.inl (fun e => this e.symm)
theorem lexO_one (d : ByteArray) (t : Tok) (h : stepP d 0 = some ([t], (d.size : Int))) (hd : 0 < d.size) : lexO d = some [t] := by
  unfold lexO
  obtain ⟨n, hn⟩ : ∃ n, d.size = n + 1 := ⟨d.size - 1, by omega⟩
  rw [show d.size + 1 = n + 1 + 1 from by omega, lexF, if_pos (by omega), h]
  simp only [List.nil_append]
  rw [lexF, if_neg (by omega)]
theorem stands_first (d : ByteArray) (c : UInt8) (t s : List UInt8) (h : d.data.toList = c :: t) (hc : ¬ c = 60) : standsB d 0 ⟨(60 :: s).toArray⟩ = false := by
  unfold standsB Lib.hasPrefix
  rw [show (0 : Int).toNat = 0 from rfl, List.drop_zero, h]
  simp only [List.isPrefixOf, Bool.and_eq_false_iff, beq_eq_false_iff_ne, ne_eq]
  exact Or.inl (fun e => hc e.symm)
theorem esc_lex (s d : ByteArray) (hd : d.data.toList = escL s.data.toList) (hs : d.size ≤ 65536) :
    lexV d = if validL s.data.toList then (if s.data.toList = [] then ([], 0) else ([⟨6, 0, d.size, ⟨#[]⟩, s⟩], 0)) else ([], 15) := by
  have hv : validL d.data.toList = validL s.data.toList := by rw [hd, valid_esc _ _ (Nat.le_refl _)]
  unfold lexV
  rw [if_neg (by omega), hv]
  cases c : validL s.data.toList with
  | false => rw [if_pos rfl, if_neg (by decide)]
  | true =>
    rw [if_neg (by decide), if_pos rfl]
    by_cases e : s.data.toList = []
    · rw [if_pos e]
      have hz : d.size = 0 := by rw [Lib.size_eq, hd, e]; rfl
      unfold lexO
      rw [hz, lexF, if_neg (by omega)]
    · rw [if_neg e]
      cases hc : d.data.toList with
      | nil =>
        exfalso
        rw [hd] at hc
        have := dec_esc s.data.toList
        rw [hc, dec_nil] at this
        injection this with this
        exact e this.symm
      | cons x t =>
        have hx : ¬ x = 60 := esc_no_less s.data.toList x (by rw [← hd, hc]; exact List.mem_cons_self ..)
        have hsz : 0 < d.size := by rw [Lib.size_eq, hc]; simp
        have hi : Lib.index (x :: t) [60] = -1 := index_out _ (fun y hy => esc_no_less s.data.toList y (by rw [← hd, hc]; exact hy))
        have hcut : (Lib.cut (x :: t) [60]).1 = x :: t := by unfold Lib.cut; rw [hi, if_neg (by decide)]
        have hdec : dec (x :: t) = some s.data.toList := by rw [← hc, hd, dec_esc]
        have hst : stepP d 0 = some ([⟨6, 0, d.size, ⟨#[]⟩, s⟩], (d.size : Int)) := by
          unfold stepP
          rw [if_neg (by rw [show (⟨#[60, 33, 45, 45]⟩ : ByteArray) = ⟨([60, 33, 45, 45] : List UInt8).toArray⟩ from rfl, stands_first d x t _ hc hx]; decide),
            if_neg (by rw [show (⟨#[60, 33, 91, 67, 68, 65, 84, 65, 91]⟩ : ByteArray) = ⟨([60, 33, 91, 67, 68, 65, 84, 65, 91] : List UInt8).toArray⟩ from rfl, stands_first d x t _ hc hx]; decide),
            if_neg (by rw [show (⟨#[60, 47]⟩ : ByteArray) = ⟨([60, 47] : List UInt8).toArray⟩ from rfl, stands_first d x t _ hc hx]; decide),
            if_neg (by rw [show (⟨#[60]⟩ : ByteArray) = ⟨([60] : List UInt8).toArray⟩ from rfl, stands_first d x t _ hc hx]; decide)]
          unfold textP
          rw [show (0 : Int).toNat = 0 from rfl, List.drop_zero, hc]
          simp only [hcut, hdec]
          rw [← hc, ← Lib.size_eq, Lib.mk_data, Int.zero_add]
        rw [lexO_one d _ hst hsz]
theorem plain_lex (s d : ByteArray) (hd : d.data.toList = [60, 33, 91, 67, 68, 65, 84, 65, 91] ++ s.data.toList ++ [93, 93, 62]) (hs : d.size ≤ 65536) :
    (validL s.data.toList = false → lexV d = ([], 15)) ∧ (validL s.data.toList = true → (∀ j, j < s.size → Lib.occAt (s.data.toList ++ [93, 93, 62]) [93, 93, 62] j = false) → lexV d = ([⟨6, 0, d.size, ⟨#[]⟩, s⟩], 0)) := by
  have hv : validL d.data.toList = validL s.data.toList := by
    rw [hd, List.append_assoc, valid_append _ _ (by decide)]
    cases c : validL s.data.toList with
    | true => rw [valid_append _ _ c]; decide
    | false =>
      cases c' : validL (s.data.toList ++ [93, 93, 62]) with
      | false => rfl
      | true =>
        have := valid_ahead [93, 93, 62] (by decide) _ _ c' rfl
        rw [c] at this; cases this
  refine ⟨fun c => ?_, fun c ho => ?_⟩
  · unfold lexV
    rw [if_neg (by omega), hv, if_pos c]
  · have hlen : d.size = s.size + 12 := by
      rw [Lib.size_eq, hd, List.length_append, List.length_append, ← Lib.size_eq]
      simp; omega
    have hi : Lib.index (s.data.toList ++ [93, 93, 62]) [93, 93, 62] = (s.size : Nat) := by
      apply Lib.index_first
      · rw [List.length_append, ← Lib.size_eq]; omega
      · unfold Lib.occAt
        rw [Lib.size_eq, List.drop_left]; decide
      · exact ho
    have hcut : Lib.cut (s.data.toList ++ [93, 93, 62]) [93, 93, 62] = (s.data.toList, [], true) := by
      unfold Lib.cut
      rw [hi, if_pos (by omega), Int.toNat_natCast, Lib.size_eq, List.take_left, List.drop_eq_nil_of_le (by rw [List.length_append]; omega)]
    have hst : stepP d 0 = some ([⟨6, 0, d.size, ⟨#[]⟩, s⟩], (d.size : Int)) := by
      unfold stepP
      have h1 : standsB d 0 ⟨#[60, 33, 45, 45]⟩ = false := by
        unfold standsB Lib.hasPrefix
        rw [show (0 : Int).toNat = 0 from rfl, List.drop_zero, hd]; rfl
      have h2 : standsB d 0 ⟨#[60, 33, 91, 67, 68, 65, 84, 65, 91]⟩ = true := by
        unfold standsB Lib.hasPrefix
        rw [show (0 : Int).toNat = 0 from rfl, List.drop_zero, hd]; rfl
      rw [if_neg (by rw [h1]; decide), if_pos h2]
      unfold plainP
      rw [show (0 : Int).toNat + 9 = 9 from rfl, hd]
      have h3 : List.drop 9 (([60, 33, 91, 67, 68, 65, 84, 65, 91] : List UInt8) ++ s.data.toList ++ [93, 93, 62]) = s.data.toList ++ [93, 93, 62] := rfl
      simp only [h3, hcut, if_true]
      rw [← Lib.size_eq, Lib.mk_data, hlen, show (0 : Int) + 9 + (s.size : Int) + 3 = ((s.size + 12 : Nat) : Int) from by omega]
    unfold lexV
    rw [if_neg (by omega), hv, c, if_neg (by decide), lexO_one d _ hst (by omega)]
end Go.Proofs.Ytekkaoenabjeiaa.P12
end
