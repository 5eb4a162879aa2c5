/- Parts of the proof of canonTrees_holds, kept and merged by a program of mine (wip/tools/slim.py) out of my texts: LexI LexJ ParV P12g ParI -/
import Derived.Test.YtlhhhlimjajnlaaGreatSPt0
import Derived.Test.YtlhhhlimjajnlaaGreatSPt32
import Derived.Test.YtlhhhlimjajnlaaGreatSPt11
import Derived.Test.YtlhhhlimjajnlaaGreatSPt17
import Derived.Test.YtlhhhlimjajnlaaGreatSPt5
import Derived.Test.YtlhhhlimjajnlaaGreatSPt9
section
set_option linter.unusedVariables false
set_option linter.unusedSimpArgs false
namespace Go.Proofs.YtlhhhlimjajnlaaGreat.X
open Go.RowKit Go.Proofs.YtlhhhlimjajnlaaGreat Go.Proofs.YtlhhhlimjajnlaaGreat.Q Go.Proofs.YtlhhhlimjajnlaaGreat.P11 Go.Proofs.YtlhhhlimjajnlaaGreatW.PrintWords Go.Proofs.YtlhhhlimjajnlaaGreatW.PrintLast Go.Proofs.YtlhhhlimjajnlaaGreatW.PrintMore
def stepP (d : ByteArray) (a : Int) : Option (List Tok × Int) :=
 if standsB d a ⟨#[60, 33, 45, 45]⟩ = true then commentP d.data.toList a
 else if standsB d a ⟨#[60, 33, 91, 67, 68, 65, 84, 65, 91]⟩ = true then plainP d.data.toList a
 else if standsB d a ⟨#[60, 47]⟩ = true then closingP d a
 else if standsB d a ⟨#[60]⟩ = true then tagP d a
 else textP d.data.toList a
def lexF (d : ByteArray) : Nat → Int → List Tok → Option (List Tok)
 | 0, _, _ => none
 | n + 1, a, acc => if a < (d.size : Int) then (match stepP d a with
  | some (new, a') => lexF d n a' (acc ++ new)
  | none => none) else some acc
def lexO (d : ByteArray) : Option (List Tok) := lexF d (d.size + 1) 0 []
def lexV (d : ByteArray) : List Tok × Int :=
 if (65536 : Int) < (d.size : Int) then ([], 18)
 else if validL d.data.toList = false then ([], 15)
 else match lexO d with
  | some l => (l, 0)
  | none => ([], 15)
theorem attrsF_room (d : ByteArray) (b : Int) : ∀ (n : Nat) (a : Int) (acc r : List Tok) (a' : Int), 0 ≤ b → b < a → a ≤ (d.size : Int) → (acc.length : Int) ≤ a - b → attrsF d n a acc = some (r, a') → b < a' ∧ a' ≤ (d.size : Int) ∧ (r.length : Int) ≤ a' - b := by
 intro n
 induction n with
 | zero => intro a acc r a' _ _ _ _ h; cases h
 | succ n ih =>
  intro a acc r a' hb h0 h1 hl h
  have hsz : d.data.toList.length = d.size := (Lib.size_eq d).symm
  unfold attrsF at h
  obtain ⟨I, hI⟩ : ∃ I, skipP d.data.toList a = I := ⟨_, rfl⟩
  have hI1 := skipP_in d.data.toList a (by omega) (by omega)
  rw [hI] at hI1
  rw [hI] at h
  by_cases c1 : standsB d I ⟨#[62]⟩ = true
  ·rw [if_pos c1] at h
   have := stands_room2 d I ⟨#[62]⟩ (by omega) (by decide) c1
   rw [show ((⟨#[62]⟩ : ByteArray).size : Int) = 1 from rfl] at this
   injection h with h; injection h with h2 h3
   subst h3 h2
   rw [List.length_append, List.length_singleton]
   omega
  rw [if_neg c1] at h
  by_cases c2 : standsB d I ⟨#[47, 62]⟩ = true
  ·rw [if_pos c2] at h
   have := stands_room2 d I ⟨#[47, 62]⟩ (by omega) (by decide) c2
   rw [show ((⟨#[47, 62]⟩ : ByteArray).size : Int) = 2 from rfl] at this
   injection h with h; injection h with h2 h3
   subst h3 h2
   rw [List.length_append, List.length_singleton]
   omega
  rw [if_neg c2] at h
  cases hA : attrP d a with
  | none => rw [hA] at h; cases h
  | some v =>
   obtain ⟨new, p⟩ := v
   rw [hA] at h
   have hr := attr_room d a (by omega) h1 new p hA
   exact ih p (acc ++ new) r a' hb (by omega) hr.2.1 (by rw [List.length_append]; omega) h
theorem hasPrefix_room (l s : List UInt8) (h : Lib.hasPrefix l s = true) : s.length ≤ l.length := by
 unfold Lib.hasPrefix at h
 obtain ⟨t, ht⟩ := List.isPrefixOf_iff_prefix.1 h
 have := congrArg List.length ht
 rw [List.length_append] at this; omega
theorem step_room (d : ByteArray) (a : Int) (h0 : 0 ≤ a) (h1 : a < (d.size : Int)) (new : List Tok) (a' : Int) (h : stepP d a = some (new, a')) : a < a' ∧ a' ≤ (d.size : Int) ∧ (new.length : Int) ≤ a' - a := by
 have hsz : d.data.toList.length = d.size := (Lib.size_eq d).symm
 unfold stepP at h
 by_cases c1 : standsB d a ⟨#[60, 33, 45, 45]⟩ = true
 ·rw [if_pos c1] at h
  unfold commentP at h
  obtain ⟨i, hi⟩ : ∃ i, Lib.index (d.data.toList.drop (a.toNat + 4)) [45, 45] = i := ⟨_, rfl⟩
  simp only [hi] at h
  by_cases c : i < 0
  ·rw [if_pos c] at h; cases h
  rw [if_neg c] at h
  by_cases c' : Lib.hasPrefix ((d.data.toList.drop (a.toNat + 4)).drop i.toNat) [45, 45, 62] = true
  ·rw [if_pos c'] at h
   have := hasPrefix_room _ _ c'
   rw [List.length_drop, List.length_drop] at this
   simp only [List.length_cons, List.length_nil] at this
   injection h with h; injection h with h2 h3
   subst h3 h2
   refine ⟨by omega, by omega, by simp; omega⟩
  ·rw [if_neg c'] at h; cases h
 rw [if_neg c1] at h
 by_cases c2 : standsB d a ⟨#[60, 33, 91, 67, 68, 65, 84, 65, 91]⟩ = true
 ·rw [if_pos c2] at h
  unfold plainP at h
  by_cases c : (Lib.cut (d.data.toList.drop (a.toNat + 9)) [93, 93, 62]).2.2 = true
  ·simp only [c, if_true] at h
   have hcl : ((Lib.cut (d.data.toList.drop (a.toNat + 9)) [93, 93, 62]).1.length : Int) + 3 ≤ ((d.data.toList.drop (a.toNat + 9)).length : Int) := by
    unfold Lib.cut at c ⊢
    by_cases ci : 0 ≤ Lib.index (d.data.toList.drop (a.toNat + 9)) [93, 93, 62]
    ·rw [if_pos ci]
     have := Lib.index_room _ _ ci
     simp only [List.length_cons, List.length_nil] at this
     rw [List.length_take]; omega
    ·rw [if_neg ci] at c; cases c
   rw [List.length_drop] at hcl
   injection h with h; injection h with h2 h3
   subst h3 h2
   refine ⟨by omega, by omega, by simp; omega⟩
  ·simp only [c] at h; cases h
 rw [if_neg c2] at h
 by_cases c3 : standsB d a ⟨#[60, 47]⟩ = true
 ·rw [if_pos c3] at h
  have hr := stands_room2 d a ⟨#[60, 47]⟩ h0 (by decide) c3
  rw [show ((⟨#[60, 47]⟩ : ByteArray).size : Int) = 2 from rfl] at hr
  unfold closingP at h
  obtain ⟨E, hE⟩ : ∃ E, nameEndP d.data.toList (a + 2) = E := ⟨_, rfl⟩
  obtain ⟨T, hT⟩ : ∃ T, skipP d.data.toList E = T := ⟨_, rfl⟩
  have hE1 := nameEndP_in d.data.toList (a + 2) (by omega) (by omega)
  rw [hE] at hE1
  have hT1 := skipP_in d.data.toList E (by omega) (by omega)
  rw [hT] at hT1
  simp only [hE, hT] at h
  by_cases c : E = a + 2
  ·rw [if_pos c] at h; cases h
  rw [if_neg c] at h
  by_cases c' : standsB d T ⟨#[62]⟩ = true
  ·rw [if_pos c'] at h
   have := stands_room d T 62 (by omega) c'
   injection h with h; injection h with h2 h3
   subst h3 h2
   refine ⟨by omega, by omega, by simp; omega⟩
  ·rw [if_neg c'] at h; cases h
 rw [if_neg c3] at h
 by_cases c4 : standsB d a ⟨#[60]⟩ = true
 ·rw [if_pos c4] at h
  unfold tagP at h
  obtain ⟨E, hE⟩ : ∃ E, nameEndP d.data.toList (a + 1) = E := ⟨_, rfl⟩
  have hE1 := nameEndP_in d.data.toList (a + 1) (by omega) (by omega)
  rw [hE] at hE1
  simp only [hE] at h
  by_cases c : E = a + 1
  ·rw [if_pos c] at h; cases h
  rw [if_neg c] at h
  exact attrsF_room d a _ _ _ _ _ h0 (by omega) (by omega) (by simp; omega) h
 rw [if_neg c4] at h
 unfold textP at h
 obtain ⟨b, hb⟩ : ∃ b, (Lib.cut (d.data.toList.drop a.toNat) [60]).1 = b := ⟨_, rfl⟩
 simp only [hb] at h
 have hble : b.length ≤ (d.data.toList.drop a.toNat).length := by rw [← hb]; exact cut_le _ _
 rw [List.length_drop] at hble
 have hb1 : 1 ≤ b.length := by
  have hlt : a.toNat < d.data.toList.length := by omega
  have hcons := List.drop_eq_getElem_cons hlt
  have hne : ¬ d.data.toList[a.toNat] = 60 := by
   intro e
   apply c4
   unfold standsB Lib.hasPrefix
   rw [hcons, e]
   simp [List.isPrefixOf]
  rw [← hb]
  unfold Lib.cut
  rw [Lib.index_one]
  by_cases ci : 0 ≤ Lib.indexByte (d.data.toList.drop a.toNat) 60
  ·rw [if_pos ci]
   obtain ⟨t, ht⟩ := ((indexByte_split (d.data.toList.drop a.toNat) 60).2 ci).2
   by_cases c0 : (Lib.indexByte (d.data.toList.drop a.toNat) 60).toNat = 0
   ·rw [c0, List.drop_zero, hcons] at ht
    injection ht with ht _
    exact absurd ht hne
   ·have := congrArg List.length ht
    rw [List.length_drop, List.length_cons, List.length_drop] at this
    show 1 ≤ ((d.data.toList.drop a.toNat).take _).length
    rw [List.length_take, List.length_drop]; omega
  ·rw [if_neg ci]
   show 1 ≤ (d.data.toList.drop a.toNat).length
   rw [List.length_drop]; omega
 cases hd : dec b with
 | none => rw [hd] at h; cases h
 | some v =>
  rw [hd] at h
  injection h with h; injection h with h2 h3
  subst h3 h2
  refine ⟨by omega, by omega, by simp; omega⟩
end Go.Proofs.YtlhhhlimjajnlaaGreat.X
end
section
set_option linter.unusedVariables false
set_option linter.unusedSimpArgs false
namespace Go.Proofs.YtlhhhlimjajnlaaGreat.X
open Go.RowKit Go.Proofs.YtlhhhlimjajnlaaGreat Go.Proofs.YtlhhhlimjajnlaaGreat.Q Go.Proofs.YtlhhhlimjajnlaaGreat.P11 Go.Proofs.YtlhhhlimjajnlaaGreatW.PrintWords Go.Proofs.YtlhhhlimjajnlaaGreatW.PrintLast Go.Proofs.YtlhhhlimjajnlaaGreatW.PrintMore
variable {w0 W : World} {g : Nat} {d : ByteArray} {a : Int} {ts : List Tok} {x : Bool}
def LexRel (d : ByteArray) (P : Option (List Tok)) (a : Int) (acc : List Tok) : Prop :=
 0 ≤ a ∧ a ≤ (d.size : Int) ∧ (acc.length : Int) ≤ a ∧ ∃ n : Nat, (d.size : Int) - a < n ∧ P = lexF d n a acc
theorem Rd.new (w W : World) (d : ByteArray) (hB : Below w.heap.size w W) : Rd w (W.alloc (.cells #[.string d, .int .i64 0, .slice none 0 0, .bool false] 91)) W.heap.size d 0 [] false :=
 ⟨.slice none 0 0, by simpa using heap_alloc_new W _, hB.size, Kd.R_nil _ _ _ _ _, below_alloc hB _⟩
theorem enters5 : (∀ a w, Sem.run Tryz.prog (callFunc 79 a) w = .ok (.enter 79 a) w) ∧ (∀ a w, Sem.run Tryz.prog (callFunc 80 a) w = .ok (.enter 80 a) w) ∧ (∀ a w, Sem.run Tryz.prog (callFunc 81 a) w = .ok (.enter 81 a) w) ∧ (∀ a w, Sem.run Tryz.prog (callFunc 82 a) w = .ok (.enter 82 a) w) ∧ (∀ a w, Sem.run Tryz.prog (callFunc 83 a) w = .ok (.enter 83 a) w) :=
 ⟨fun _ _ => by kernel_rfl, fun _ _ => by kernel_rfl, fun _ _ => by kernel_rfl, fun _ _ => by kernel_rfl, fun _ _ => by kernel_rfl⟩
theorem goes_on (w : World) (h : Rd w0 w g d a ts false) (hG : G w0) (hl : ts.length ≤ 100000) (hs : d.size ≤ 65536) (h0 : 0 ≤ a) (h1 : a < (d.size : Int)) :
 Calls Tryz.prog (nextK d a) #[.pointer (some ⟨g, 0, none⟩)] w fun e w' => e = .returned (.tuple #[]) ∧ Step w0 w' g d ts (stepP d a) := by
 have hr := fun s hs c => stands_room2 d a s h0 hs c
 unfold nextK stepP
 by_cases c1 : standsB d a ⟨#[60, 33, 45, 45]⟩ = true
 ·rw [if_pos c1, if_pos c1]
  have := hr _ (by decide) c1
  rw [show ((⟨#[60, 33, 45, 45]⟩ : ByteArray).size : Int) = 4 from rfl] at this
  exact comment_c w h hG (by omega) (by omega) h0 this
 rw [if_neg c1, if_neg c1]
 by_cases c2 : standsB d a ⟨#[60, 33, 91, 67, 68, 65, 84, 65, 91]⟩ = true
 ·rw [if_pos c2, if_pos c2]
  have := hr _ (by decide) c2
  rw [show ((⟨#[60, 33, 91, 67, 68, 65, 84, 65, 91]⟩ : ByteArray).size : Int) = 9 from rfl] at this
  exact plain_c w h hG (by omega) (by omega) h0 this
 rw [if_neg c2, if_neg c2]
 by_cases c3 : standsB d a ⟨#[60, 47]⟩ = true
 ·rw [if_pos c3, if_pos c3]
  have := hr _ (by decide) c3
  rw [show ((⟨#[60, 47]⟩ : ByteArray).size : Int) = 2 from rfl] at this
  exact closing_c w h (by omega) (by omega) h0 this
 rw [if_neg c3, if_neg c3]
 by_cases c4 : standsB d a ⟨#[60]⟩ = true
 ·rw [if_pos c4, if_pos c4]
  exact tag_c w h hG hl (by omega) h0 (by omega)
 rw [if_neg c4, if_neg c4]
 exact text_c w h hG (by omega) (by omega) h0 (by omega)
theorem enters_next (d : ByteArray) (p : Int) (a : Array Value) (w : World) : Sem.run Tryz.prog (callFunc (nextK d p) a) w = .ok (.enter (nextK d p) a) w := by
 obtain ⟨e1, e2, e3, e4, e5⟩ := enters5
 unfold nextK
 split
 ·exact e1 a w
 ·split
  ·exact e2 a w
  ·split
   ·exact e3 a w
   ·split
    ·exact e4 a w
    ·exact e5 a w
set_option maxHeartbeats 16000000 in
set_option maxRecDepth 100000 in
theorem lex_c (w : World) (hG : G w) (d : ByteArray) (hs : d.size ≤ 4294967280) :
 Calls Tryz.prog 25 #[.string d] w fun e w' => ∃ v, e = .returned (.tuple #[v, .int .i64 (lexV d).2]) ∧ Kd.R k51 51 w' w.heap.size (fun _ => True) v (lexV d).1 ∧ Below w.heap.size w w' := by
 obtain ⟨V, hV⟩ : ∃ V, lexV d = V := ⟨_, rfl⟩
 rw [hV]
 unfold lexV at hV
 by_cases c1 : (65536 : Int) < (d.size : Int)
 ·rw [if_pos c1] at hV
  subst hV
  have b1 : decide ((65536 : Int) < (d.size : Int)) = true := decide_eq_true c1
  have b2 := eq_true c1
  go_enter Tryz.func25, Tryz.ntmps25
  go_wp2
  first | go_ret | go_ret2 | go_ret3
  exact ⟨_, rfl, Kd.R_nil _ _ _ _ _, zz26⟩
 rw [if_neg c1] at hV
 have b1 : decide ((65536 : Int) < (d.size : Int)) = false := decide_eq_false c1
 have b2 := eq_false c1
 have hsz : d.size ≤ 65536 := by omega
 clear c1
 have hVa : ∀ W, Calls Tryz.prog 46 #[.string d] W fun e w' => e = .returned (.bool (validL d.data.toList)) ∧ Below W.heap.size W w' := fun W => chars_Valid.calls (d.size + 2 + 0) d _ W (valid_f d (by omega) 0)
 obtain ⟨q, hq⟩ : ∃ q, validL d.data.toList = q := ⟨_, rfl⟩
 rw [hq] at hVa hV
 cases q with
 | false =>
  rw [if_pos rfl] at hV
  subst hV
  go_enter Tryz.func25, Tryz.ntmps25
  go_wp2_with (go_at_call 46; (with_reducible refine (hVa _).mono ?_); rintro e w1 ⟨rfl, hb1⟩)
  first | go_ret | go_ret2 | go_ret3
  exact ⟨_, rfl, Kd.R_nil _ _ _ _ _, by repeat (first | exact hb1 | exact Below.refl _ _ | apply pw_below_drewN | apply below_drew | apply below_alloc)⟩
 | true =>
  rw [if_neg (by decide)] at hV
  have hNE := enters_next d
  have hT : LexRel d (lexO d) 0 [] := ⟨by omega, by omega, by simp, ⟨d.size + 1, by omega, rfl⟩⟩
  have HT := Lib.hid hT
  clear hT
  go_enter Tryz.func25, Tryz.ntmps25
  go_wp2_with (go_at_call 46; (with_reducible refine (hVa _).mono ?_); rintro e w1 ⟨rfl, hb1⟩)
  have hB1 : Below w.heap.size w w1 := by repeat (first | exact hb1 | apply pw_below_drewN | apply below_drew)
  have HI := Lib.hid (Rd.new w w1 d hB1)
  obtain ⟨g, hg⟩ : ∃ g, w1.heap.size = g := ⟨_, rfl⟩
  rw [hg] at HI ⊢
  clear hb1 hB1
  go_loopw [5] (fun t wr => (Hid (lexO d = none) ∧ ∃ p ts', Hid (Rd w wr g d p ts' true)) ∨ (∃ p acc, Hid (LexRel d (lexO d) p acc) ∧ Hid (Rd w wr g d p acc false))) (fun t wr => ahead d g wr)
  case atStart => exact .inr ⟨_, _, HT, HI⟩
  case round =>
   clear HI HT
   rcases hrel with ⟨hPn, p, ts', HR⟩ | ⟨p, acc, hRel, HR⟩
   ·have hc3 := HR.out.c3
    have hc1 := HR.out.c1
    rw [hPn.out] at hV
    have hV' : ([], 15) = V := hV
    subst hV'
    obtain ⟨bb, l1⟩ : ∃ bb, decide (p < (d.size : Int)) = bb := ⟨_, rfl⟩
    cases bb
    all_goals
     go_wp2
     first | go_ret | go_ret2 | go_ret3
     exact ⟨_, rfl, Kd.R_nil _ _ _ _ _, by first | exact HR.out.bel | exact (HR.out.drewN _).bel | exact HR.out.drew.bel⟩
   ·have hmeas := Lib.hid HR.out.ahead_
    obtain ⟨r1, r2, r3, n, hn, hPn⟩ := hRel.out
    have hc3 := HR.out.c3
    have hc1 := HR.out.c1
    cases n with
    | zero => omega
    | succ n =>
    unfold lexF at hPn
    by_cases hlt : p < (d.size : Int)
    ·rw [if_pos hlt] at hPn
     have l1 : decide (p < (d.size : Int)) = true := decide_eq_true hlt
     have l2 := eq_true hlt
     obtain ⟨K, hK⟩ : ∃ K, nextK d p = K := ⟨_, rfl⟩
     have hNx : ∀ W, Rd w W g d p acc false → Calls Tryz.prog 56 #[.pointer (some ⟨g, 0, none⟩)] W fun e w' => e = .returned (.func (.func K) #[.pointer (some ⟨g, 0, none⟩)] #[]) ∧ Below W.heap.size W w' := fun W h => by rw [← hK]; exact next_c W h r1
     have hGo : ∀ W, Rd w W g d p acc false → Calls Tryz.prog K #[.pointer (some ⟨g, 0, none⟩)] W fun e w' => e = .returned (.tuple #[]) ∧ Step w w' g d acc (stepP d p) := fun W h => by rw [← hK]; exact goes_on W h hG (by omega) hsz r1 hlt
     have hEn : ∀ (a : Array Value) (w : World), Sem.run Tryz.prog (callFunc K a) w = .ok (.enter K a) w := fun a w => by rw [← hK]; exact enters_next d p a w
     go_wp2_with (go_at_call 56; (with_reducible refine (hNx _ (by first | exact HR.out | exact HR.out.drewN _)).mono ?_); rintro e w3 ⟨rfl, hb_⟩; have H3 := Lib.hid (show Rd w w3 g d p acc false from by first | exact HR.out.below hb_ | exact (HR.out.drewN _).below hb_); clear hb_)
     go_wp2_with ((with_reducible refine (hGo _ (zz36)).mono ?_); rintro e w4 ⟨rfl, ht⟩)
     cases hS : stepP d p with
     | none =>
      rw [hS] at ht hPn
      obtain ⟨a', ts', ht⟩ := ht
      have HA := Lib.hid ht
      have HP := Lib.hid hPn
      clear ht hPn hV
      go_wp2
      go_roundw
      case rel => first | exact .inl ⟨HP, _, _, HA⟩ | exact .inl ⟨_, _, HA⟩
      case measure => rw [hmeas.out, HA.out.ahead_]; simp only [Bool.false_eq_true, if_false, if_true]; omega
     | some v =>
      obtain ⟨new, a'⟩ := v
      rw [hS] at ht hPn
      have hroom := step_room d p r1 hlt new a' hS
      have HA := Lib.hid (show Rd w w4 g d a' (acc ++ new) false from ht)
      have HP := Lib.hid hPn
      clear ht hPn hV
      go_wp2
      go_roundw
      case rel => exact .inr ⟨_, _, Lib.hid ⟨by omega, hroom.2.1, by rw [List.length_append]; omega, ⟨n, by omega, HP.out⟩⟩, HA⟩
      case measure => rw [hmeas.out, HA.out.ahead_]; simp only [Bool.false_eq_true, if_false, if_true]; omega
    ·rw [if_neg hlt] at hPn
     have l1 : decide (p < (d.size : Int)) = false := decide_eq_false hlt
     have l2 := eq_false hlt
     rw [hPn] at hV
     have hV' : (acc, 0) = V := hV
     subst hV'
     obtain ⟨v, h1, h2, h3, h4⟩ := HR.out
     obtain ⟨A, c, rfl, -, -⟩ := Kd.R_reads h3
     have hc2 : wr.cell? ⟨g, 2, none⟩ = some (.slice A acc.length c) := (blk_cell h1 2).trans rfl
     have H5 := Lib.hid h3
     have H6 := Lib.hid h4
     clear h1 h3 h4
     go_wp2
     first | go_ret | go_ret2 | go_ret3
     exact ⟨_, rfl, Kd.R_mono (by first | exact H5.out | exact Kd.R_drewN H5.out _ | exact Kd.R_drew H5.out) (fun _ _ => trivial), by first | exact H6.out | exact pw_below_drewN H6.out _⟩
def lexer_Lex.f (a0 : ByteArray) : Option (List Tok × Int) := if a0.size ≤ 4294967280 then some (lexV a0) else none
theorem lexer_Lex.calls (a0 : ByteArray) (r1 : List Tok) (r2 : Int) (w : World) (hG : G w) (h : lexer_Lex.f a0 = some (r1, r2)) :
 Calls Tryz.prog 25 #[.string a0] w fun e w' => ∃ v0_ : Value, e = .returned (.tuple #[v0_, .int .i64 r2]) ∧ Kd.R k51 51 w' w.heap.size (fun _ => True) v0_ r1 ∧ Below w.heap.size w w' := by
 unfold lexer_Lex.f at h
 split at h
 ·rename_i hs
  have h := Option.some.inj h
  have h1 : r1 = (lexV a0).1 := by rw [h]
  have h2 : r2 = (lexV a0).2 := by rw [h]
  subst h1 h2
  exact lex_c w hG a0 hs
 ·cases h
end Go.Proofs.YtlhhhlimjajnlaaGreat.X
end
section
set_option linter.unusedVariables false
set_option linter.unusedSimpArgs false
namespace Go.Proofs.YtlhhhlimjajnlaaGreat.X
open Go Go.RowKit Go.Proofs.YtlhhhlimjajnlaaGreat Go.Proofs.YtlhhhlimjajnlaaGreat.Q Go.Proofs.YtlhhhlimjajnlaaGreat.P11 Go.Proofs.YtlhhhlimjajnlaaGreatW.PrintWords
def parseV (d : ByteArray) : (List ByteArray × List Nod) × Int :=
 if (lexV d).2 = 0 then treeP (flushP ((lexV d).1.foldl stepT psZero)) else (([], []), (lexV d).2)
end Go.Proofs.YtlhhhlimjajnlaaGreat.X
end
section
set_option linter.unusedVariables false
set_option linter.unusedSimpArgs false
namespace Go.Proofs.YtlhhhlimjajnlaaGreat.P12
open Go Go.RowKit Go.Proofs.YtlhhhlimjajnlaaGreat Go.Proofs.YtlhhhlimjajnlaaGreat.Q Go.Proofs.YtlhhhlimjajnlaaGreatW.PrintWords Go.Proofs.YtlhhhlimjajnlaaGreat.X Go.Proofs.YtlhhhlimjajnlaaGreat.P11
def opens (k : Int) : Bool := k == 1 || k == 2
def inTag (k : Int) : Bool := k == 2 || k == 3 || k == 4
def Seg (l : List UInt8) : Int → Bool → List Tok → Int → Bool → Prop
 | a, x, [], b, y => a = b ∧ x = y
 | a, x, t :: r, b, y => a ≤ t.f1 ∧ t.f1 < t.f2 ∧ t.f2 ≤ l.length ∧ (∀ n : Nat, a ≤ n → (n : Int) < t.f1 → spaceB (l.getD n 0) = true ∧ x = true) ∧ x = inTag t.f0 ∧ Seg l t.f2 (opens t.f0) r b y
theorem Seg.append {l : List UInt8} : ∀ {r1 r2 : List Tok} {a b c : Int} {x y z : Bool}, Seg l a x r1 b y → Seg l b y r2 c z → Seg l a x (r1 ++ r2) c z
 | [], r2, a, b, c, x, y, z, h1, h2 => by
  obtain ⟨rfl, rfl⟩ := h1
  exact h2
 | t :: r1, r2, a, b, c, x, y, z, h1, h2 => by
  obtain ⟨e1, e2, e3, e4, e5, e6⟩ := h1
  exact ⟨e1, e2, e3, e4, e5, Seg.append e6 h2⟩
theorem Seg.one {l : List UInt8} {t : Tok} {a b : Int} {x : Bool} (h1 : t.f1 = a) (h2 : t.f2 = b) (h3 : a < b) (h4 : b ≤ l.length) (h5 : x = inTag t.f0) : Seg l a x [t] b (opens t.f0) := by
 refine ⟨by omega, by omega, by omega, fun n c1 c2 => by omega, h5, h2, rfl⟩
theorem skip_spaces (l : List UInt8) (a : Int) (h0 : 0 ≤ a) (n : Nat) (h1 : a ≤ n) (h2 : (n : Int) < skipP l a) : spaceB (l.getD n 0) = true := by
 unfold skipP at h2
 split at h2
 ·rename_i hc
  have hk : n - a.toNat < ((l.drop a.toNat).takeWhile spaceB).length := by omega
  have hm : ((l.drop a.toNat).takeWhile spaceB)[n - a.toNat] ∈ (l.drop a.toNat).takeWhile spaceB := List.getElem_mem hk
  have hs := List.all_eq_true.1 (List.all_takeWhile (p := spaceB) (l := l.drop a.toNat)) _ hm
  have hle := takeWhile_le spaceB (l.drop a.toNat)
  rw [List.length_drop] at hle
  have hpre : (l.drop a.toNat).takeWhile spaceB <+: l.drop a.toNat := List.takeWhile_prefix spaceB
  have he := hpre.getElem hk
  rw [he, List.getElem_drop] at hs
  rw [List.getD_eq_getElem?_getD, List.getElem?_eq_getElem (by omega)]
  simp only [Option.getD_some]
  have hidx : a.toNat + (n - a.toNat) = n := by omega
  simp only [hidx] at hs
  exact hs
 ·omega
theorem Seg.tag {l : List UInt8} {t : Tok} {a b : Int} (h0 : 0 ≤ a) (ha : a ≤ l.length) (h1 : t.f1 = skipP l a) (h2 : t.f2 = b) (h3 : skipP l a < b) (h4 : b ≤ l.length) (h5 : inTag t.f0 = true) : Seg l a true [t] b (opens t.f0) := by
 have := skipP_in l a h0 ha
 refine ⟨by omega, by omega, by omega, fun n c1 c2 => ⟨skip_spaces l a h0 n c1 (by omega), rfl⟩, h5.symm, h2, rfl⟩
theorem attr_seg (d : ByteArray) (a : Int) (h0 : 0 ≤ a) (h1 : a ≤ (d.size : Int)) (new : List Tok) (a' : Int) (h : attrP d a = some (new, a')) : Seg d.data.toList a true new a' true := by
 have hroom := attr_room d a h0 h1 new a' h
 have hsz : d.data.toList.length = d.size := (Lib.size_eq d).symm
 unfold attrP at h
 obtain ⟨F, hF⟩ : ∃ F, skipP d.data.toList a = F := ⟨_, rfl⟩
 obtain ⟨E, hE⟩ : ∃ E, nameEndP d.data.toList F = E := ⟨_, rfl⟩
 obtain ⟨Q, hQ⟩ : ∃ Q, skipP d.data.toList E = Q := ⟨_, rfl⟩
 obtain ⟨O, hO⟩ : ∃ O, skipP d.data.toList (Q + 1) = O := ⟨_, rfl⟩
 simp only [hF, hE, hQ, hO] at h
 have hF1 := skipP_in d.data.toList a (by omega) (by omega)
 rw [hF] at hF1
 have hE1 := nameEndP_in d.data.toList F (by omega) (by omega)
 rw [hE] at hE1
 have hQ1 := skipP_in d.data.toList E (by omega) (by omega)
 rw [hQ] at hQ1
 by_cases c1 : F = a
 ·rw [if_pos c1] at h; cases h
 rw [if_neg c1] at h
 by_cases c2 : E = F
 ·rw [if_pos c2] at h; cases h
 rw [if_neg c2] at h
 by_cases c3 : standsB d Q ⟨#[61]⟩ = false
 ·rw [if_pos c3] at h; cases h
 rw [if_neg c3] at h
 have hr1 := stands_room d Q 61 (by omega) (by simpa using c3)
 have hO1 := skipP_in d.data.toList (Q + 1) (by omega) (by omega)
 rw [hO] at hO1
 by_cases c4 : standsB d O ⟨#[34]⟩ = false ∧ standsB d O ⟨#[39]⟩ = false
 ·rw [if_pos c4] at h; cases h
 rw [if_neg c4] at h
 obtain ⟨c, hc⟩ : ∃ c, Lib.cut (d.data.toList.drop (O + 1).toNat) (partB d O (O + 1)).data.toList = c := ⟨_, rfl⟩
 rw [hc] at h
 by_cases c5 : c.2.2 = false
 ·rw [if_pos c5] at h; cases h
 rw [if_neg c5] at h
 by_cases c6 : 0 ≤ Lib.indexByte c.1 60
 ·rw [if_pos c6] at h; cases h
 rw [if_neg c6] at h
 cases hd : dec c.1 with
 | none => rw [hd] at h; cases h
 | some v =>
  rw [hd] at h
  injection h with h
  injection h with h2 h3
  subst h3 h2
  exact Seg.tag h0 (by omega) hF.symm rfl (by omega) (by omega) rfl
theorem attrs_seg (d : ByteArray) : ∀ (n : Nat) (a : Int) (acc r : List Tok) (a' : Int), 0 ≤ a → a ≤ (d.size : Int) → attrsF d n a acc = some (r, a') → ∃ r', r = acc ++ r' ∧ Seg d.data.toList a true r' a' false := by
 intro n
 induction n with
 | zero => intro a acc r a' _ _ h; cases h
 | succ n ih =>
  intro a acc r a' h0 h1 h
  have hsz : d.data.toList.length = d.size := (Lib.size_eq d).symm
  unfold attrsF at h
  obtain ⟨I, hI⟩ : ∃ I, skipP d.data.toList a = I := ⟨_, rfl⟩
  have hI1 := skipP_in d.data.toList a (by omega) (by omega)
  rw [hI] at hI1
  rw [hI] at h
  by_cases c1 : standsB d I ⟨#[62]⟩ = true
  ·rw [if_pos c1] at h
   have := stands_room2 d I ⟨#[62]⟩ (by omega) (by decide) c1
   rw [show ((⟨#[62]⟩ : ByteArray).size : Int) = 1 from rfl] at this
   injection h with h; injection h with h2 h3
   subst h3 h2
   exact ⟨_, rfl, Seg.tag h0 (by omega) hI.symm rfl (by omega) (by omega) rfl⟩
  rw [if_neg c1] at h
  by_cases c2 : standsB d I ⟨#[47, 62]⟩ = true
  ·rw [if_pos c2] at h
   have := stands_room2 d I ⟨#[47, 62]⟩ (by omega) (by decide) c2
   rw [show ((⟨#[47, 62]⟩ : ByteArray).size : Int) = 2 from rfl] at this
   injection h with h; injection h with h2 h3
   subst h3 h2
   exact ⟨_, rfl, Seg.tag h0 (by omega) hI.symm rfl (by omega) (by omega) rfl⟩
  rw [if_neg c2] at h
  cases hA : attrP d a with
  | none => rw [hA] at h; cases h
  | some v =>
   obtain ⟨new, p⟩ := v
   rw [hA] at h
   have hr := attr_room d a (by omega) h1 new p hA
   obtain ⟨r', e, hs⟩ := ih p (acc ++ new) r a' (by omega) hr.2.1 h
   exact ⟨new ++ r', by rw [e, List.append_assoc], (attr_seg d a h0 h1 new p hA).append hs⟩
theorem step_seg (d : ByteArray) (a : Int) (h0 : 0 ≤ a) (h1 : a < (d.size : Int)) (new : List Tok) (a' : Int) (h : stepP d a = some (new, a')) : Seg d.data.toList a false new a' false := by
 have hroom := step_room d a h0 h1 new a' h
 have hsz : d.data.toList.length = d.size := (Lib.size_eq d).symm
 unfold stepP at h
 by_cases c1 : standsB d a ⟨#[60, 33, 45, 45]⟩ = true
 ·rw [if_pos c1] at h
  unfold commentP at h
  obtain ⟨i, hi⟩ : ∃ i, Lib.index (d.data.toList.drop (a.toNat + 4)) [45, 45] = i := ⟨_, rfl⟩
  simp only [hi] at h
  by_cases c : i < 0
  ·rw [if_pos c] at h; cases h
  rw [if_neg c] at h
  by_cases c' : Lib.hasPrefix ((d.data.toList.drop (a.toNat + 4)).drop i.toNat) [45, 45, 62] = true
  ·rw [if_pos c'] at h
   injection h with h; injection h with h2 h3
   subst h3 h2
   exact Seg.one rfl rfl (by omega) (by omega) rfl
  ·rw [if_neg c'] at h; cases h
 rw [if_neg c1] at h
 by_cases c2 : standsB d a ⟨#[60, 33, 91, 67, 68, 65, 84, 65, 91]⟩ = true
 ·rw [if_pos c2] at h
  unfold plainP at h
  by_cases c : (Lib.cut (d.data.toList.drop (a.toNat + 9)) [93, 93, 62]).2.2 = true
  ·simp only [c, if_true] at h
   injection h with h; injection h with h2 h3
   subst h3 h2
   exact Seg.one rfl rfl (by omega) (by omega) rfl
  ·simp only [c] at h; cases h
 rw [if_neg c2] at h
 by_cases c3 : standsB d a ⟨#[60, 47]⟩ = true
 ·rw [if_pos c3] at h
  unfold closingP at h
  obtain ⟨E, hE⟩ : ∃ E, nameEndP d.data.toList (a + 2) = E := ⟨_, rfl⟩
  obtain ⟨T, hT⟩ : ∃ T, skipP d.data.toList E = T := ⟨_, rfl⟩
  simp only [hE, hT] at h
  by_cases c : E = a + 2
  ·rw [if_pos c] at h; cases h
  rw [if_neg c] at h
  by_cases c' : standsB d T ⟨#[62]⟩ = true
  ·rw [if_pos c'] at h
   injection h with h; injection h with h2 h3
   subst h3 h2
   exact Seg.one rfl rfl (by omega) (by omega) rfl
  ·rw [if_neg c'] at h; cases h
 rw [if_neg c3] at h
 by_cases c4 : standsB d a ⟨#[60]⟩ = true
 ·rw [if_pos c4] at h
  unfold tagP at h
  obtain ⟨E, hE⟩ : ∃ E, nameEndP d.data.toList (a + 1) = E := ⟨_, rfl⟩
  have hE1 := nameEndP_in d.data.toList (a + 1) (by omega) (by omega)
  rw [hE] at hE1
  simp only [hE] at h
  by_cases c : E = a + 1
  ·rw [if_pos c] at h; cases h
  rw [if_neg c] at h
  obtain ⟨r', e, hs⟩ := attrs_seg d _ _ _ _ _ (by omega) (by omega) h
  rw [e]
  exact Seg.append (Seg.one (t := ⟨1, a, E, partB d (a + 1) E, ⟨#[]⟩⟩) (b := E) rfl rfl (by omega) (by omega) rfl) hs
 rw [if_neg c4] at h
 unfold textP at h
 obtain ⟨b, hb⟩ : ∃ b, (Lib.cut (d.data.toList.drop a.toNat) [60]).1 = b := ⟨_, rfl⟩
 simp only [hb] at h
 cases hd : dec b with
 | none => rw [hd] at h; cases h
 | some v =>
  rw [hd] at h
  injection h with h; injection h with h2 h3
  subst h3 h2
  exact Seg.one rfl rfl (by omega) (by omega) rfl
theorem lexF_seg (s : ByteArray) (n : Nat) : ∀ (a : Int) (acc l : List Tok), 0 ≤ a → a ≤ (s.size : Int) → lexF s n a acc = some l → ∃ r, l = acc ++ r ∧ Seg s.data.toList a false r s.size false := by
 induction n with
 | zero => intro a acc l _ _ h; cases h
 | succ n ih =>
  intro a acc l h0 h1 h
  unfold lexF at h
  by_cases hlt : a < (s.size : Int)
  ·rw [if_pos hlt] at h
   cases hS : stepP s a with
   | none => rw [hS] at h; cases h
   | some v =>
    obtain ⟨new, a'⟩ := v
    rw [hS] at h
    have hroom := step_room s a h0 hlt new a' hS
    obtain ⟨r, e, hs⟩ := ih a' (acc ++ new) l (by omega) hroom.2.1 h
    exact ⟨new ++ r, by rw [e, List.append_assoc], (step_seg s a h0 hlt new a' hS).append hs⟩
  ·rw [if_neg hlt] at h
   obtain rfl := Option.some.inj h
   exact ⟨[], by simp, by omega, rfl⟩
theorem lexV_seg (s : ByteArray) (h : (lexV s).2 = 0) : Seg s.data.toList 0 false (lexV s).1 s.size false := by
 unfold lexV at h ⊢
 split
 ·rename_i c; rw [if_pos c] at h; cases h
 ·rename_i c
  rw [if_neg c] at h
  split
  ·rename_i c'; rw [if_pos c'] at h; cases h
  ·rename_i c'
   rw [if_neg c'] at h
   cases ho : lexO s with
   | none => rw [ho] at h; cases h
   | some l =>
    obtain ⟨r, e, hs⟩ := lexF_seg s _ 0 [] l (by omega) (by omega) ho
    rw [List.nil_append] at e
    subst e
    exact hs
end Go.Proofs.YtlhhhlimjajnlaaGreat.P12
end
section
set_option linter.unusedVariables false
set_option linter.unusedSimpArgs false
namespace Go.Proofs.YtlhhhlimjajnlaaGreat.X
open Go Go.RowKit Go.Proofs.YtlhhhlimjajnlaaGreat Go.Proofs.YtlhhhlimjajnlaaGreat.Q Go.Proofs.YtlhhhlimjajnlaaGreat.P11 Go.Proofs.YtlhhhlimjajnlaaGreat.P12 Go.Proofs.YtlhhhlimjajnlaaGreatW.PrintWords
theorem decF_len : ∀ (n : Nat) (l v : List UInt8), decF n l = some v → v.length ≤ 4 * l.length
 | 0, [], v, h => by obtain rfl := Option.some.inj h; simp
 | n + 1, [], v, h => by obtain rfl := Option.some.inj h; simp
 | 0, c :: t, v, h => by cases h
 | n + 1, c :: t, v, h => by
  unfold decF at h
  by_cases hc : c = 38
  ·rw [if_pos hc] at h
   by_cases he : (entL (c :: t)).2 = 0
   ·rw [if_pos he] at h; cases h
   ·rw [if_neg he] at h
    cases hr : decF n ((c :: t).drop (entL (c :: t)).2.toNat) with
    | none => rw [hr] at h; cases h
    | some u =>
     rw [hr] at h
     have h := Option.some.inj h
     have ih := decF_len n _ u hr
     have ho := entL_ok (c :: t)
     rw [List.length_drop] at ih
     rw [← h, List.length_append]
     omega
  ·rw [if_neg hc] at h
   cases hr : decF n t with
   | none => rw [hr] at h; cases h
   | some u =>
    rw [hr] at h
    have h := Option.some.inj h
    have ih := decF_len n t u hr
    rw [← h, List.length_cons, List.length_cons]
    omega
def Vals (l : List Tok) : Prop := ∀ t, t ∈ l → t.f0 = 6 → (t.f4.size : Int) ≤ 4 * (t.f2 - t.f1)
theorem attr_kind (d : ByteArray) (a : Int) (new : List Tok) (a' : Int) (h : attrP d a = some (new, a')) : ∀ t, t ∈ new → t.f0 = 2 := by
 unfold attrP at h
 simp only at h
 repeat' split at h
 all_goals first
  | (injection h with h; injection h with h2 h3; intro t ht; rw [← h2] at ht; rw [List.mem_singleton.1 ht]; done)
  | (exact absurd h (by simp))
theorem attrs_kind (d : ByteArray) : ∀ (n : Nat) (a : Int) (acc r : List Tok) (a' : Int), (∀ t, t ∈ acc → ¬ t.f0 = 6) → attrsF d n a acc = some (r, a') → ∀ t, t ∈ r → ¬ t.f0 = 6 := by
 intro n
 induction n with
 | zero => intro a acc r a' _ h; cases h
 | succ n ih =>
  intro a acc r a' hacc h
  unfold attrsF at h
  split at h
  ·injection h with h; injection h with h2 h3
   intro t ht
   rw [← h2] at ht
   rcases List.mem_append.1 ht with ht | ht
   ·exact hacc t ht
   ·rw [List.mem_singleton.1 ht]; show ¬ (3 : Int) = 6; omega
  split at h
  ·injection h with h; injection h with h2 h3
   intro t ht
   rw [← h2] at ht
   rcases List.mem_append.1 ht with ht | ht
   ·exact hacc t ht
   ·rw [List.mem_singleton.1 ht]; show ¬ (4 : Int) = 6; omega
  cases hA : attrP d a with
  | none => rw [hA] at h; cases h
  | some v =>
   obtain ⟨new, p⟩ := v
   rw [hA] at h
   refine ih p (acc ++ new) r a' (fun t ht => ?_) h
   rcases List.mem_append.1 ht with ht | ht
   ·exact hacc t ht
   ·rw [attr_kind d a new p hA t ht]; omega
theorem step_vals (d : ByteArray) (a : Int) (new : List Tok) (a' : Int) (h : stepP d a = some (new, a')) : Vals new := by
 unfold stepP at h
 split at h
 ·unfold commentP at h
  simp only at h
  split at h
  ·cases h
  split at h
  ·injection h with h; injection h with h2 h3
   intro t ht h6
   rw [← h2] at ht
   rw [List.mem_singleton.1 ht] at h6
   exact absurd h6 (by show ¬ (7 : Int) = 6; omega)
  ·cases h
 split at h
 ·unfold plainP at h
  simp only at h
  split at h
  ·injection h with h; injection h with h2 h3
   intro t ht h6
   rw [← h2] at ht
   rw [List.mem_singleton.1 ht]
   show (((⟨List.toArray _⟩ : ByteArray).size : Nat) : Int) ≤ 4 * (_ - _)
   rw [show ∀ l : List UInt8, (⟨l.toArray⟩ : ByteArray).size = l.length from fun l => by simp [ByteArray.size]]
   dsimp only
   omega
  ·cases h
 split at h
 ·unfold closingP at h
  simp only at h
  split at h
  ·cases h
  split at h
  ·injection h with h; injection h with h2 h3
   intro t ht h6
   rw [← h2] at ht
   rw [List.mem_singleton.1 ht] at h6
   exact absurd h6 (by show ¬ (5 : Int) = 6; omega)
  ·cases h
 split at h
 ·unfold tagP at h
  simp only at h
  split at h
  ·cases h
  intro t ht h6
  exact absurd h6 (attrs_kind d _ _ _ _ _ (fun t ht => by rw [List.mem_singleton.1 ht]; show ¬ (1 : Int) = 6; omega) h t ht)
 ·unfold textP at h
  simp only at h
  cases hd : dec (Lib.cut (d.data.toList.drop a.toNat) [60]).1 with
  | none => rw [hd] at h; cases h
  | some v =>
   rw [hd] at h
   injection h with h; injection h with h2 h3
   intro t ht h6
   rw [← h2] at ht
   rw [List.mem_singleton.1 ht]
   have := decF_len _ _ v hd
   show (((⟨List.toArray _⟩ : ByteArray).size : Nat) : Int) ≤ 4 * (_ - _)
   rw [show ∀ l : List UInt8, (⟨l.toArray⟩ : ByteArray).size = l.length from fun l => by simp [ByteArray.size]]
   dsimp only
   omega
theorem lexF_vals (s : ByteArray) (n : Nat) : ∀ (a : Int) (acc l : List Tok), Vals acc → lexF s n a acc = some l → Vals l := by
 induction n with
 | zero => intro a acc l _ h; cases h
 | succ n ih =>
  intro a acc l hv h
  unfold lexF at h
  split at h
  ·cases hS : stepP s a with
   | none => rw [hS] at h; cases h
   | some v =>
    obtain ⟨new, a'⟩ := v
    rw [hS] at h
    refine ih a' (acc ++ new) l (fun t ht => ?_) h
    rcases List.mem_append.1 ht with ht | ht
    ·exact hv t ht
    ·exact step_vals s a new a' hS t ht
  ·obtain rfl := Option.some.inj h
   exact hv
theorem lexV_vals (s : ByteArray) : Vals (lexV s).1 := by
 unfold lexV
 split
 ·intro t ht; cases ht
 split
 ·intro t ht; cases ht
 ·cases h : lexO s with
  | none => intro t ht; cases ht
  | some l => exact lexF_vals s _ 0 [] l (fun t ht => by cases ht) h
def Inv (st : PS) (x : Bool) (k : Nat) (m : Int) : Prop :=
 st.s.length = st.n.length ∧ st.n.length ≤ 2 * k ∧ st.o.length ≤ k ∧ (∀ z, z ∈ st.o → 0 ≤ z ∧ z < (st.s.length : Int)) ∧ (x = true → st.o ≠ []) ∧ (st.x.size : Int) ≤ m ∧ 0 ≤ m
theorem topP_in (o : List Int) (h : o ≠ []) : topP o ∈ o := by
 rcases List.eq_nil_or_concat o with h' | ⟨pre, z, h'⟩
 ·exact absurd h' h
 ·rw [h']; unfold topP; simp
theorem topP_lt {st : PS} {x : Bool} {k : Nat} {m : Int} (h : Inv st x k m) : topP st.o < (st.s.length : Int) := by
 by_cases ho : st.o = []
 ·rw [ho]; show (-1 : Int) < _; omega
 ·exact (h.2.2.2.1 _ (topP_in _ ho)).2
theorem topP_ge {st : PS} {k : Nat} {m : Int} (h : Inv st true k m) : 0 ≤ topP st.o := (h.2.2.2.1 _ (topP_in _ (h.2.2.2.2.1 rfl))).1
theorem inv_flush {st : PS} {x : Bool} {k : Nat} {m : Int} (h : Inv st x k m) : (flushP st).s.length = (flushP st).n.length ∧ (flushP st).n.length ≤ st.n.length + 1 ∧ st.s.length ≤ (flushP st).s.length ∧ (flushP st).o = st.o ∧ (flushP st).x = ⟨#[]⟩ := by
 obtain ⟨h1, -⟩ := h
 unfold flushP
 split
 ·exact ⟨h1, by show st.n.length ≤ _; omega, Nat.le_refl _, rfl, rfl⟩
 split
 ·exact ⟨h1, by show st.n.length ≤ _; omega, Nat.le_refl _, rfl, rfl⟩
 ·refine ⟨by simp [putP, h1], by simp [putP], by simp [putP], rfl, rfl⟩
theorem bz : (⟨#[]⟩ : ByteArray).size = 0 := rfl
theorem inv_end {st : PS} {x : Bool} {k : Nat} {m : Int} (h : Inv st x k m) (name : ByteArray) : Inv (endP st name) false (k + 1) m := by
 obtain ⟨f1, f2, f3, f4, f5⟩ := inv_flush h
 obtain ⟨h1, h2, h3, h4, h5, h6, h7⟩ := h
 unfold endP
 simp only
 split
 ·refine ⟨f1, by show (flushP st).n.length ≤ _; omega, by show (flushP st).o.length ≤ _; rw [f4]; omega, ?_, fun e => (absurd e (by decide)), by show ((flushP st).x.size : Int) ≤ m; rw [f5, bz]; exact h7, h7⟩
  intro z hz
  have hz : z ∈ (flushP st).o := hz
  rw [f4] at hz
  have := h4 z hz
  show 0 ≤ z ∧ z < ((flushP st).s.length : Int)
  omega
 ·refine ⟨f1, by show (flushP st).n.length ≤ _; omega, by show (flushP st).o.dropLast.length ≤ _; rw [f4, List.length_dropLast]; omega, ?_, fun e => (absurd e (by decide)), by show ((flushP st).x.size : Int) ≤ m; rw [f5, bz]; exact h7, h7⟩
  intro z hz
  have hz : z ∈ (flushP st).o.dropLast := hz
  rw [f4] at hz
  have := h4 z (((List.dropLast_sublist _).subset hz))
  show 0 ≤ z ∧ z < ((flushP st).s.length : Int)
  omega
theorem inv_mono {st : PS} {x : Bool} {k : Nat} {m m' : Int} (h : Inv st x k m) (hm : m ≤ m') : Inv st false (k + 1) m' := by
 obtain ⟨h1, h2, h3, h4, h5, h6, h7⟩ := h
 exact ⟨h1, by omega, by omega, h4, fun e => (absurd e (by decide)), by omega, by omega⟩
theorem inv_step {st : PS} {x : Bool} {k : Nat} {m : Int} (h : Inv st x k m) (t : Tok) (hx : x = inTag t.f0) (hlt : t.f1 < t.f2) (hv : t.f0 = 6 → (t.f4.size : Int) ≤ 4 * (t.f2 - t.f1)) : Inv (stepT st t) (opens t.f0) (k + 1) (m + 4 * (t.f2 - t.f1)) := by
 obtain ⟨f1, f2, f3, f4, f5⟩ := inv_flush h
 have hm : m ≤ m + 4 * (t.f2 - t.f1) := by omega
 unfold stepT
 by_cases c7 : t.f0 = 7
 ·rw [if_pos c7, c7]; exact inv_mono h hm
 rw [if_neg c7]
 by_cases c6 : t.f0 = 6
 ·rw [if_pos c6]
  have hv := hv c6
  rw [c6]
  obtain ⟨h1, h2, h3, h4, h5, h6, h7⟩ := h
  refine ⟨h1, by show st.n.length ≤ _; omega, by show st.o.length ≤ _; omega, h4, fun e => (absurd e (by decide)), ?_, by omega⟩
  show ((st.x ++ t.f4).size : Int) ≤ _
  rw [ByteArray.size_append]; omega
 rw [if_neg c6]
 by_cases c1 : t.f0 = 1
 ·rw [if_pos c1, c1]
  obtain ⟨h1, h2, h3, h4, h5, h6, h7⟩ := h
  unfold beginP
  refine ⟨by simp [putP, f1], by simp [putP]; omega, by simp [putP, f4]; omega, ?_, fun _ => by simp [putP], by show ((flushP st).x.size : Int) ≤ _; rw [f5, bz]; omega, by omega⟩
  intro z hz
  have hz : z ∈ (flushP st).o ++ [((flushP st).n.length : Int)] := hz
  show 0 ≤ z ∧ z < (((flushP st).s ++ [t.f3]).length : Int)
  rw [List.length_append, List.length_singleton]
  rcases List.mem_append.1 hz with hz | hz
  ·rw [f4] at hz
   have := h4 z hz
   omega
  ·have := List.mem_singleton.1 hz
   omega
 rw [if_neg c1]
 by_cases c2 : t.f0 = 2
 ·rw [if_pos c2, c2]
  rw [c2] at hx
  obtain ⟨h1, h2, h3, h4, h5, h6, h7⟩ := h
  unfold attrS
  refine ⟨by simp [putP, h1], by simp [putP]; omega, by show st.o.length ≤ _; omega, ?_, fun _ => h5 hx, by show (st.x.size : Int) ≤ _; omega, by omega⟩
  intro z hz
  have := h4 z hz
  show 0 ≤ z ∧ z < ((st.s ++ [t.f3]).length : Int)
  rw [List.length_append, List.length_singleton]
  omega
 rw [if_neg c2]
 have ho : opens t.f0 = false := by
  unfold opens
  rw [show (t.f0 == 1) = false from by simpa using c1, show (t.f0 == 2) = false from by simpa using c2]; rfl
 rw [ho]
 have hmm : ∀ {s : PS}, Inv s false (k + 1) m → Inv s false (k + 1) (m + 4 * (t.f2 - t.f1)) := by
  rintro s ⟨h1, h2, h3, h4, h5, h6, h7⟩
  exact ⟨h1, h2, h3, h4, h5, by omega, by omega⟩
 split
 ·exact hmm (inv_end h _)
 split
 ·exact hmm (inv_end h _)
 ·exact inv_mono h hm
theorem seg_le (L : List UInt8) : ∀ (r : List Tok) (a b : Int) (x y : Bool), Seg L a x r b y → a ≤ b := by
 intro r
 induction r with
 | nil => intro a b x y h; obtain ⟨rfl, _⟩ := h; omega
 | cons u r ih =>
  intro a b x y h
  obtain ⟨h1, h2, h3, h4, h5, h6⟩ := h
  have := ih _ _ _ _ h6
  omega
theorem inv_run (L : List UInt8) : ∀ (l : List Tok) (a b : Int) (x y : Bool) (st : PS) (k : Nat) (m : Int), Seg L a x l b y → Vals l → Inv st x k m → ∀ i, i ≤ l.length →
 ∃ x' m', Inv ((l.take i).foldl stepT st) x' (k + i) m' ∧ m' ≤ m + 4 * (b - a) ∧ (∀ t, l[i]? = some t → x' = inTag t.f0) := by
 intro l
 induction l with
 | nil =>
  intro a b x y st k m hseg _ hinv i hi
  have : i = 0 := by simpa using hi
  subst this
  obtain ⟨rfl, _⟩ := hseg
  exact ⟨x, m, hinv, by omega, fun t ht => by simp at ht⟩
 | cons u r ih =>
  intro a b x y st k m hseg hv hinv i hi
  have hle := seg_le L _ _ _ _ _ hseg
  obtain ⟨h1, h2, h3, h4, h5, h6⟩ := hseg
  cases i with
  | zero => exact ⟨x, m, hinv, by omega, fun t ht => by simp at ht; rw [← ht]; exact h5⟩
  | succ i =>
   have hst := inv_step hinv u h5 h2 (hv u (List.mem_cons_self ..))
   obtain ⟨x', m', i1, i2, i3⟩ := ih u.f2 b (opens u.f0) y (stepT st u) (k + 1) _ h6 (fun t ht => hv t (List.mem_cons_of_mem _ ht)) hst i (by simpa using hi)
   refine ⟨x', m', ?_, ?_, fun t ht => i3 t (by simpa using ht)⟩
   ·rw [show k + (i + 1) = k + 1 + i from by omega]; exact i1
   ·omega
theorem inv_zero : Inv psZero false 0 0 := ⟨rfl, Nat.le_refl _, Nat.le_refl _, fun z hz => (by cases hz), fun e => (by cases e), Int.le_refl _, Int.le_refl _⟩
end Go.Proofs.YtlhhhlimjajnlaaGreat.X
end
