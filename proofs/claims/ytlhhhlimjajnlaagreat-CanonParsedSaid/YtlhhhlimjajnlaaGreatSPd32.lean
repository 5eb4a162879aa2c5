/- Parts of the proof of canonParsed_holds, kept and merged by a program of mine (wip/tools/slim.py) out of my texts: ParI ParN P12h P12t -/
import Derived.Test.YtlhhhlimjajnlaaGreatSPd0
import Derived.Test.YtlhhhlimjajnlaaGreatSPd23
import Derived.Test.YtlhhhlimjajnlaaGreatSPd5
section
set_option linter.unusedVariables false
set_option linter.unusedSimpArgs false
namespace Go.Proofs.YtlhhhlimjajnlaaGreat.X
open Go Go.RowKit Go.Proofs.YtlhhhlimjajnlaaGreat Go.Proofs.YtlhhhlimjajnlaaGreat.Q Go.Proofs.YtlhhhlimjajnlaaGreat.P11 Go.Proofs.YtlhhhlimjajnlaaGreat.P12 Go.Proofs.YtlhhhlimjajnlaaGreatW.PrintWords
theorem decF_len : ∀ (n : Nat) (l v : List UInt8), decF n l = some v → v.length ≤ 4 * l.length
 | 0, [], v, h => by obtain rfl := Option.some.inj h; simp
 | n + 1, [], v, h => by obtain rfl := Option.some.inj h; simp
 | 0, c :: t, v, h => by cases h
 | n + 1, c :: t, v, h => by
  unfold decF at h
  by_cases hc : c = 38
  ·rw [if_pos hc] at h
   by_cases he : (entL (c :: t)).2 = 0
   ·rw [if_pos he] at h; cases h
   ·rw [if_neg he] at h
    cases hr : decF n ((c :: t).drop (entL (c :: t)).2.toNat) with
    | none => rw [hr] at h; cases h
    | some u =>
     rw [hr] at h
     have h := Option.some.inj h
     have ih := decF_len n _ u hr
     have ho := entL_ok (c :: t)
     rw [List.length_drop] at ih
     rw [← h, List.length_append]
     omega
  ·rw [if_neg hc] at h
   cases hr : decF n t with
   | none => rw [hr] at h; cases h
   | some u =>
    rw [hr] at h
    have h := Option.some.inj h
    have ih := decF_len n t u hr
    rw [← h, List.length_cons, List.length_cons]
    omega
def Vals (l : List Tok) : Prop := ∀ t, t ∈ l → t.f0 = 6 → (t.f4.size : Int) ≤ 4 * (t.f2 - t.f1)
theorem attr_kind (d : ByteArray) (a : Int) (new : List Tok) (a' : Int) (h : attrP d a = some (new, a')) : ∀ t, t ∈ new → t.f0 = 2 := by
 unfold attrP at h
 simp only at h
 repeat' split at h
 all_goals first
  | (injection h with h; injection h with h2 h3; intro t ht; rw [← h2] at ht; rw [List.mem_singleton.1 ht]; done)
  | (exact absurd h (by simp))
theorem attrs_kind (d : ByteArray) : ∀ (n : Nat) (a : Int) (acc r : List Tok) (a' : Int), (∀ t, t ∈ acc → ¬ t.f0 = 6) → attrsF d n a acc = some (r, a') → ∀ t, t ∈ r → ¬ t.f0 = 6 := by
 intro n
 induction n with
 | zero => intro a acc r a' _ h; cases h
 | succ n ih =>
  intro a acc r a' hacc h
  unfold attrsF at h
  split at h
  ·injection h with h; injection h with h2 h3
   intro t ht
   rw [← h2] at ht
   rcases List.mem_append.1 ht with ht | ht
   ·exact hacc t ht
   ·rw [List.mem_singleton.1 ht]; show ¬ (3 : Int) = 6; omega
  split at h
  ·injection h with h; injection h with h2 h3
   intro t ht
   rw [← h2] at ht
   rcases List.mem_append.1 ht with ht | ht
   ·exact hacc t ht
   ·rw [List.mem_singleton.1 ht]; show ¬ (4 : Int) = 6; omega
  cases hA : attrP d a with
  | none => rw [hA] at h; cases h
  | some v =>
   obtain ⟨new, p⟩ := v
   rw [hA] at h
   refine ih p (acc ++ new) r a' (fun t ht => ?_) h
   rcases List.mem_append.1 ht with ht | ht
   ·exact hacc t ht
   ·rw [attr_kind d a new p hA t ht]; omega
theorem step_vals (d : ByteArray) (a : Int) (new : List Tok) (a' : Int) (h : stepP d a = some (new, a')) : Vals new := by
 unfold stepP at h
 split at h
 ·unfold commentP at h
  simp only at h
  split at h
  ·cases h
  split at h
  ·injection h with h; injection h with h2 h3
   intro t ht h6
   rw [← h2] at ht
   rw [List.mem_singleton.1 ht] at h6
   exact absurd h6 (by show ¬ (7 : Int) = 6; omega)
  ·cases h
 split at h
 ·unfold plainP at h
  simp only at h
  split at h
  ·injection h with h; injection h with h2 h3
   intro t ht h6
   rw [← h2] at ht
   rw [List.mem_singleton.1 ht]
   show (((⟨List.toArray _⟩ : ByteArray).size : Nat) : Int) ≤ 4 * (_ - _)
   rw [show ∀ l : List UInt8, (⟨l.toArray⟩ : ByteArray).size = l.length from fun l => by simp [ByteArray.size]]
   dsimp only
   omega
  ·cases h
 split at h
 ·unfold closingP at h
  simp only at h
  split at h
  ·cases h
  split at h
  ·injection h with h; injection h with h2 h3
   intro t ht h6
   rw [← h2] at ht
   rw [List.mem_singleton.1 ht] at h6
   exact absurd h6 (by show ¬ (5 : Int) = 6; omega)
  ·cases h
 split at h
 ·unfold tagP at h
  simp only at h
  split at h
  ·cases h
  intro t ht h6
  exact absurd h6 (attrs_kind d _ _ _ _ _ (fun t ht => by rw [List.mem_singleton.1 ht]; show ¬ (1 : Int) = 6; omega) h t ht)
 ·unfold textP at h
  simp only at h
  cases hd : dec (Lib.cut (d.data.toList.drop a.toNat) [60]).1 with
  | none => rw [hd] at h; cases h
  | some v =>
   rw [hd] at h
   injection h with h; injection h with h2 h3
   intro t ht h6
   rw [← h2] at ht
   rw [List.mem_singleton.1 ht]
   have := decF_len _ _ v hd
   show (((⟨List.toArray _⟩ : ByteArray).size : Nat) : Int) ≤ 4 * (_ - _)
   rw [show ∀ l : List UInt8, (⟨l.toArray⟩ : ByteArray).size = l.length from fun l => by simp [ByteArray.size]]
   dsimp only
   omega
theorem lexF_vals (s : ByteArray) (n : Nat) : ∀ (a : Int) (acc l : List Tok), Vals acc → lexF s n a acc = some l → Vals l := by
 induction n with
 | zero => intro a acc l _ h; cases h
 | succ n ih =>
  intro a acc l hv h
  unfold lexF at h
  split at h
  ·cases hS : stepP s a with
   | none => rw [hS] at h; cases h
   | some v =>
    obtain ⟨new, a'⟩ := v
    rw [hS] at h
    refine ih a' (acc ++ new) l (fun t ht => ?_) h
    rcases List.mem_append.1 ht with ht | ht
    ·exact hv t ht
    ·exact step_vals s a new a' hS t ht
  ·obtain rfl := Option.some.inj h
   exact hv
theorem lexV_vals (s : ByteArray) : Vals (lexV s).1 := by
 unfold lexV
 split
 ·intro t ht; cases ht
 split
 ·intro t ht; cases ht
 ·cases h : lexO s with
  | none => intro t ht; cases ht
  | some l => exact lexF_vals s _ 0 [] l (fun t ht => by cases ht) h
def Inv (st : PS) (x : Bool) (k : Nat) (m : Int) : Prop :=
 st.s.length = st.n.length ∧ st.n.length ≤ 2 * k ∧ st.o.length ≤ k ∧ (∀ z, z ∈ st.o → 0 ≤ z ∧ z < (st.s.length : Int)) ∧ (x = true → st.o ≠ []) ∧ (st.x.size : Int) ≤ m ∧ 0 ≤ m
theorem topP_in (o : List Int) (h : o ≠ []) : topP o ∈ o := by
 rcases List.eq_nil_or_concat o with h' | ⟨pre, z, h'⟩
 ·exact absurd h' h
 ·rw [h']; unfold topP; simp
theorem topP_lt {st : PS} {x : Bool} {k : Nat} {m : Int} (h : Inv st x k m) : topP st.o < (st.s.length : Int) := by
 by_cases ho : st.o = []
 ·rw [ho]; show (-1 : Int) < _; omega
 ·exact (h.2.2.2.1 _ (topP_in _ ho)).2
theorem topP_ge {st : PS} {k : Nat} {m : Int} (h : Inv st true k m) : 0 ≤ topP st.o := (h.2.2.2.1 _ (topP_in _ (h.2.2.2.2.1 rfl))).1
theorem inv_flush {st : PS} {x : Bool} {k : Nat} {m : Int} (h : Inv st x k m) : (flushP st).s.length = (flushP st).n.length ∧ (flushP st).n.length ≤ st.n.length + 1 ∧ st.s.length ≤ (flushP st).s.length ∧ (flushP st).o = st.o ∧ (flushP st).x = ⟨#[]⟩ := by
 obtain ⟨h1, -⟩ := h
 unfold flushP
 split
 ·exact ⟨h1, by show st.n.length ≤ _; omega, Nat.le_refl _, rfl, rfl⟩
 split
 ·exact ⟨h1, by show st.n.length ≤ _; omega, Nat.le_refl _, rfl, rfl⟩
 ·refine ⟨by simp [putP, h1], by simp [putP], by simp [putP], rfl, rfl⟩
theorem bz : (⟨#[]⟩ : ByteArray).size = 0 := rfl
theorem inv_end {st : PS} {x : Bool} {k : Nat} {m : Int} (h : Inv st x k m) (name : ByteArray) : Inv (endP st name) false (k + 1) m := by
 obtain ⟨f1, f2, f3, f4, f5⟩ := inv_flush h
 obtain ⟨h1, h2, h3, h4, h5, h6, h7⟩ := h
 unfold endP
 simp only
 split
 ·refine ⟨f1, by show (flushP st).n.length ≤ _; omega, by show (flushP st).o.length ≤ _; rw [f4]; omega, ?_, fun e => (absurd e (by decide)), by show ((flushP st).x.size : Int) ≤ m; rw [f5, bz]; exact h7, h7⟩
  intro z hz
  have hz : z ∈ (flushP st).o := hz
  rw [f4] at hz
  have := h4 z hz
  show 0 ≤ z ∧ z < ((flushP st).s.length : Int)
  omega
 ·refine ⟨f1, by show (flushP st).n.length ≤ _; omega, by show (flushP st).o.dropLast.length ≤ _; rw [f4, List.length_dropLast]; omega, ?_, fun e => (absurd e (by decide)), by show ((flushP st).x.size : Int) ≤ m; rw [f5, bz]; exact h7, h7⟩
  intro z hz
  have hz : z ∈ (flushP st).o.dropLast := hz
  rw [f4] at hz
  have := h4 z (((List.dropLast_sublist _).subset hz))
  show 0 ≤ z ∧ z < ((flushP st).s.length : Int)
  omega
theorem inv_mono {st : PS} {x : Bool} {k : Nat} {m m' : Int} (h : Inv st x k m) (hm : m ≤ m') : Inv st false (k + 1) m' := by
 obtain ⟨h1, h2, h3, h4, h5, h6, h7⟩ := h
 exact ⟨h1, by omega, by omega, h4, fun e => (absurd e (by decide)), by omega, by omega⟩
theorem inv_step {st : PS} {x : Bool} {k : Nat} {m : Int} (h : Inv st x k m) (t : Tok) (hx : x = inTag t.f0) (hlt : t.f1 < t.f2) (hv : t.f0 = 6 → (t.f4.size : Int) ≤ 4 * (t.f2 - t.f1)) : Inv (stepT st t) (opens t.f0) (k + 1) (m + 4 * (t.f2 - t.f1)) := by
 obtain ⟨f1, f2, f3, f4, f5⟩ := inv_flush h
 have hm : m ≤ m + 4 * (t.f2 - t.f1) := by omega
 unfold stepT
 by_cases c7 : t.f0 = 7
 ·rw [if_pos c7, c7]; exact inv_mono h hm
 rw [if_neg c7]
 by_cases c6 : t.f0 = 6
 ·rw [if_pos c6]
  have hv := hv c6
  rw [c6]
  obtain ⟨h1, h2, h3, h4, h5, h6, h7⟩ := h
  refine ⟨h1, by show st.n.length ≤ _; omega, by show st.o.length ≤ _; omega, h4, fun e => (absurd e (by decide)), ?_, by omega⟩
  show ((st.x ++ t.f4).size : Int) ≤ _
  rw [ByteArray.size_append]; omega
 rw [if_neg c6]
 by_cases c1 : t.f0 = 1
 ·rw [if_pos c1, c1]
  obtain ⟨h1, h2, h3, h4, h5, h6, h7⟩ := h
  unfold beginP
  refine ⟨by simp [putP, f1], by simp [putP]; omega, by simp [putP, f4]; omega, ?_, fun _ => by simp [putP], by show ((flushP st).x.size : Int) ≤ _; rw [f5, bz]; omega, by omega⟩
  intro z hz
  have hz : z ∈ (flushP st).o ++ [((flushP st).n.length : Int)] := hz
  show 0 ≤ z ∧ z < (((flushP st).s ++ [t.f3]).length : Int)
  rw [List.length_append, List.length_singleton]
  rcases List.mem_append.1 hz with hz | hz
  ·rw [f4] at hz
   have := h4 z hz
   omega
  ·have := List.mem_singleton.1 hz
   omega
 rw [if_neg c1]
 by_cases c2 : t.f0 = 2
 ·rw [if_pos c2, c2]
  rw [c2] at hx
  obtain ⟨h1, h2, h3, h4, h5, h6, h7⟩ := h
  unfold attrS
  refine ⟨by simp [putP, h1], by simp [putP]; omega, by show st.o.length ≤ _; omega, ?_, fun _ => h5 hx, by show (st.x.size : Int) ≤ _; omega, by omega⟩
  intro z hz
  have := h4 z hz
  show 0 ≤ z ∧ z < ((st.s ++ [t.f3]).length : Int)
  rw [List.length_append, List.length_singleton]
  omega
 rw [if_neg c2]
 have ho : opens t.f0 = false := by
  unfold opens
  rw [show (t.f0 == 1) = false from by simpa using c1, show (t.f0 == 2) = false from by simpa using c2]; rfl
 rw [ho]
 have hmm : ∀ {s : PS}, Inv s false (k + 1) m → Inv s false (k + 1) (m + 4 * (t.f2 - t.f1)) := by
  rintro s ⟨h1, h2, h3, h4, h5, h6, h7⟩
  exact ⟨h1, h2, h3, h4, h5, by omega, by omega⟩
 split
 ·exact hmm (inv_end h _)
 split
 ·exact hmm (inv_end h _)
 ·exact inv_mono h hm
theorem seg_le (L : List UInt8) : ∀ (r : List Tok) (a b : Int) (x y : Bool), Seg L a x r b y → a ≤ b := by
 intro r
 induction r with
 | nil => intro a b x y h; obtain ⟨rfl, _⟩ := h; omega
 | cons u r ih =>
  intro a b x y h
  obtain ⟨h1, h2, h3, h4, h5, h6⟩ := h
  have := ih _ _ _ _ h6
  omega
theorem inv_run (L : List UInt8) : ∀ (l : List Tok) (a b : Int) (x y : Bool) (st : PS) (k : Nat) (m : Int), Seg L a x l b y → Vals l → Inv st x k m → ∀ i, i ≤ l.length →
 ∃ x' m', Inv ((l.take i).foldl stepT st) x' (k + i) m' ∧ m' ≤ m + 4 * (b - a) ∧ (∀ t, l[i]? = some t → x' = inTag t.f0) := by
 intro l
 induction l with
 | nil =>
  intro a b x y st k m hseg _ hinv i hi
  have : i = 0 := by simpa using hi
  subst this
  obtain ⟨rfl, _⟩ := hseg
  exact ⟨x, m, hinv, by omega, fun t ht => by simp at ht⟩
 | cons u r ih =>
  intro a b x y st k m hseg hv hinv i hi
  have hle := seg_le L _ _ _ _ _ hseg
  obtain ⟨h1, h2, h3, h4, h5, h6⟩ := hseg
  cases i with
  | zero => exact ⟨x, m, hinv, by omega, fun t ht => by simp at ht; rw [← ht]; exact h5⟩
  | succ i =>
   have hst := inv_step hinv u h5 h2 (hv u (List.mem_cons_self ..))
   obtain ⟨x', m', i1, i2, i3⟩ := ih u.f2 b (opens u.f0) y (stepT st u) (k + 1) _ h6 (fun t ht => hv t (List.mem_cons_of_mem _ ht)) hst i (by simpa using hi)
   refine ⟨x', m', ?_, ?_, fun t ht => i3 t (by simpa using ht)⟩
   ·rw [show k + (i + 1) = k + 1 + i from by omega]; exact i1
   ·omega
theorem inv_zero : Inv psZero false 0 0 := ⟨rfl, Nat.le_refl _, Nat.le_refl _, fun z hz => (by cases hz), fun e => (by cases e), Int.le_refl _, Int.le_refl _⟩
theorem part_size (d : ByteArray) (i j : Int) : (partB d i j).size ≤ d.size := by
 unfold partB
 rw [Lib.size_eq, Lib.size_eq, Lib.extract_data, List.length_take, List.length_drop]; omega
theorem none_size (d : ByteArray) : (⟨#[]⟩ : ByteArray).size ≤ d.size := Nat.zero_le _
def Nms (d : ByteArray) (l : List Tok) : Prop := ∀ t, t ∈ l → t.f3.size ≤ d.size
theorem nms_app {d : ByteArray} {l r : List Tok} (h1 : Nms d l) (h2 : Nms d r) : Nms d (l ++ r) := fun t ht => by
 rcases List.mem_append.1 ht with h | h
 ·exact h1 t h
 ·exact h2 t h
theorem nms_one {d : ByteArray} {t : Tok} (h : t.f3.size ≤ d.size) : Nms d [t] := fun u hu => by rw [List.mem_singleton.1 hu]; exact h
theorem attr_nms (d : ByteArray) (a : Int) (new : List Tok) (a' : Int) (h : attrP d a = some (new, a')) : Nms d new := by
 unfold attrP at h
 simp only at h
 repeat' split at h
 all_goals first
  | (injection h with h; injection h with h2 h3; rw [← h2]; exact nms_one (part_size d _ _); done)
  | (exact absurd h (by simp))
theorem attrs_nms (d : ByteArray) : ∀ (n : Nat) (a : Int) (acc r : List Tok) (a' : Int), Nms d acc → attrsF d n a acc = some (r, a') → Nms d r := by
 intro n
 induction n with
 | zero => intro a acc r a' _ h; cases h
 | succ n ih =>
  intro a acc r a' hacc h
  unfold attrsF at h
  split at h
  ·injection h with h; injection h with h2 h3
   rw [← h2]; exact nms_app hacc (nms_one (none_size d))
  split at h
  ·injection h with h; injection h with h2 h3
   rw [← h2]; exact nms_app hacc (nms_one (none_size d))
  cases hA : attrP d a with
  | none => rw [hA] at h; cases h
  | some v =>
   obtain ⟨new, p⟩ := v
   rw [hA] at h
   exact ih p (acc ++ new) r a' (nms_app hacc (attr_nms d a new p hA)) h
theorem step_nms (d : ByteArray) (a : Int) (new : List Tok) (a' : Int) (h : stepP d a = some (new, a')) : Nms d new := by
 unfold stepP at h
 split at h
 ·unfold commentP at h
  simp only at h
  split at h
  ·cases h
  split at h
  ·injection h with h; injection h with h2 h3
   rw [← h2]; exact nms_one (none_size d)
  ·cases h
 split at h
 ·unfold plainP at h
  simp only at h
  split at h
  ·injection h with h; injection h with h2 h3
   rw [← h2]; exact nms_one (none_size d)
  ·cases h
 split at h
 ·unfold closingP at h
  simp only at h
  split at h
  ·cases h
  split at h
  ·injection h with h; injection h with h2 h3
   rw [← h2]; exact nms_one (part_size d _ _)
  ·cases h
 split at h
 ·unfold tagP at h
  simp only at h
  split at h
  ·cases h
  exact attrs_nms d _ _ _ _ _ (nms_one (part_size d _ _)) h
 ·unfold textP at h
  simp only at h
  cases hd : dec (Lib.cut (d.data.toList.drop a.toNat) [60]).1 with
  | none => rw [hd] at h; cases h
  | some v =>
   rw [hd] at h
   injection h with h; injection h with h2 h3
   rw [← h2]; exact nms_one (none_size d)
theorem lexF_nms (s : ByteArray) (n : Nat) : ∀ (a : Int) (acc l : List Tok), Nms s acc → lexF s n a acc = some l → Nms s l := by
 induction n with
 | zero => intro a acc l _ h; cases h
 | succ n ih =>
  intro a acc l hv h
  unfold lexF at h
  split at h
  ·cases hS : stepP s a with
   | none => rw [hS] at h; cases h
   | some v =>
    obtain ⟨new, a'⟩ := v
    rw [hS] at h
    exact ih a' (acc ++ new) l (nms_app hv (step_nms s a new a' hS)) h
  ·obtain rfl := Option.some.inj h
   exact hv
theorem lexV_nms (s : ByteArray) : Nms s (lexV s).1 := by
 unfold lexV
 split
 ·intro t ht; cases ht
 split
 ·intro t ht; cases ht
 ·cases h : lexO s with
  | none => intro t ht; cases ht
  | some l => exact lexF_nms s _ 0 [] l (fun t ht => by cases ht) h
def Sht (m : Nat) (l : List ByteArray) : Prop := ∀ s, s ∈ l → s.size ≤ m
theorem sht_app {m : Nat} {l : List ByteArray} {s : ByteArray} (h : Sht m l) (hs : s.size ≤ m) : Sht m (l ++ [s]) := fun u hu => by
 rcases List.mem_append.1 hu with h' | h'
 ·exact h u h'
 ·rw [List.mem_singleton.1 h']; exact hs
theorem sht_flush {m : Nat} {p : PS} (h : Sht m p.s) : Sht m (flushP p).s := by
 unfold flushP
 split
 ·exact h
 split
 ·exact h
 ·exact sht_app h (Nat.zero_le _)
theorem sht_end {m : Nat} {p : PS} (h : Sht m p.s) (name : ByteArray) : Sht m (endP p name).s := by
 unfold endP
 simp only
 split
 ·exact sht_flush h
 ·exact sht_flush h
theorem sht_step {m : Nat} {p : PS} (h : Sht m p.s) (t : Tok) (ht : t.f3.size ≤ m) : Sht m (stepT p t).s := by
 unfold stepT
 repeat' split
 ·exact h
 ·exact h
 ·exact sht_app (sht_flush h) ht
 ·exact sht_app h ht
 ·exact sht_end h _
 ·exact sht_end h _
 ·exact h
theorem sht_run {m : Nat} : ∀ (l : List Tok) (p : PS), Sht m p.s → (∀ t, t ∈ l → t.f3.size ≤ m) → Sht m (l.foldl stepT p).s
 | [], p, h, _ => h
 | t :: l, p, h, hl => sht_run l (stepT p t) (sht_step h t (hl t (List.mem_cons_self ..))) fun u hu => hl u (List.mem_cons_of_mem _ hu)
theorem seg_len (L : List UInt8) : ∀ (r : List Tok) (a b : Int) (x y : Bool), Seg L a x r b y → (r.length : Int) ≤ b - a := by
 intro r
 induction r with
 | nil => intro a b x y h; obtain ⟨rfl, _⟩ := h; simp
 | cons u r ih =>
  intro a b x y h
  obtain ⟨h1, h2, h3, h4, h5, h6⟩ := h
  have := ih _ _ _ _ h6
  rw [List.length_cons]; omega
theorem lexV_small (s : ByteArray) (h : (lexV s).2 = 0) : s.size ≤ 65536 := by
 unfold lexV at h
 split at h
 ·exact absurd h (by decide)
 ·omega
end Go.Proofs.YtlhhhlimjajnlaaGreat.X
end
section
set_option linter.unusedVariables false
set_option linter.unusedSimpArgs false
namespace Go.Proofs.YtlhhhlimjajnlaaGreat.P12
open Go Go.RowKit Go.Proofs.YtlhhhlimjajnlaaGreat Go.Proofs.YtlhhhlimjajnlaaGreat.Q Go.Proofs.YtlhhhlimjajnlaaGreatW.PrintWords Go.Proofs.YtlhhhlimjajnlaaGreat.X Go.Proofs.YtlhhhlimjajnlaaGreat.P11
def restB (d : ByteArray) (a : Int) : ByteArray := ⟨(d.data.toList.drop a.toNat).toArray⟩
def shT (a : Int) (t : Tok) : Tok := ⟨t.f0, a + t.f1, a + t.f2, t.f3, t.f4⟩
def shR (a : Int) : Option (List Tok × Int) → Option (List Tok × Int)
 | some (l, b) => some (l.map (shT a), a + b)
 | none => none
theorem rest_list (d : ByteArray) (a : Int) : (restB d a).data.toList = d.data.toList.drop a.toNat := rfl
theorem rest_size (d : ByteArray) (a : Int) (h0 : 0 ≤ a) (h1 : a ≤ (d.size : Int)) : ((restB d a).size : Int) = d.size - a := by
 have hsz : d.data.toList.length = d.size := (Lib.size_eq d).symm
 rw [Lib.size_eq, rest_list, List.length_drop]; omega
theorem skip_ge (l : List UInt8) (i : Int) : i ≤ skipP l i := by
 unfold skipP; split <;> omega
theorem name_ge (l : List UInt8) (i : Int) : i ≤ nameEndP l i := by
 unfold nameEndP; split <;> omega
theorem drop_rest (l : List UInt8) (a i : Int) (h0 : 0 ≤ a) (hi : 0 ≤ i) : l.drop (a + i).toNat = (l.drop a.toNat).drop i.toNat := by
 rw [List.drop_drop, show (a + i).toNat = a.toNat + i.toNat from by omega]
theorem skip_rest (l : List UInt8) (a i : Int) (h0 : 0 ≤ a) (h1 : a ≤ l.length) (hi : 0 ≤ i) : skipP l (a + i) = a + skipP (l.drop a.toNat) i := by
 unfold skipP
 rw [drop_rest l a i h0 hi, List.length_drop]
 by_cases c : 0 ≤ a + i ∧ a + i < l.length
 ·rw [if_pos c, if_pos (by omega)]; omega
 ·rw [if_neg c, if_neg (by omega)]
theorem name_rest (l : List UInt8) (a i : Int) (h0 : 0 ≤ a) (h1 : a ≤ l.length) (hi : 0 ≤ i) : nameEndP l (a + i) = a + nameEndP (l.drop a.toNat) i := by
 unfold nameEndP
 rw [drop_rest l a i h0 hi, List.length_drop]
 by_cases c : 0 ≤ a + i ∧ a + i < l.length
 ·rw [if_pos c, if_pos (by omega)]; omega
 ·rw [if_neg c, if_neg (by omega)]
theorem stands_rest (d : ByteArray) (a i : Int) (s : ByteArray) (h0 : 0 ≤ a) (hi : 0 ≤ i) : standsB d (a + i) s = standsB (restB d a) i s := by
 unfold standsB
 rw [drop_rest _ a i h0 hi, rest_list]
theorem part_rest (d : ByteArray) (a i j : Int) (h0 : 0 ≤ a) (hi : 0 ≤ i) (hj : 0 ≤ j) : partB d (a + i) (a + j) = partB (restB d a) i j := by
 unfold partB
 apply ByteArray.ext; apply Array.ext'
 rw [Lib.extract_data, Lib.extract_data, drop_rest _ a i h0 hi, rest_list, show (a + j).toNat - (a + i).toNat = j.toNat - i.toNat from by omega]
theorem attr_rest (d : ByteArray) (a i : Int) (h0 : 0 ≤ a) (h1 : a ≤ (d.size : Int)) (hi : 0 ≤ i) : attrP d (a + i) = shR a (attrP (restB d a) i) := by
 have hsz : d.data.toList.length = d.size := (Lib.size_eq d).symm
 unfold attrP
 rw [rest_list]
 obtain ⟨F, hF⟩ : ∃ F, skipP (d.data.toList.drop a.toNat) i = F := ⟨_, rfl⟩
 obtain ⟨E, hE⟩ : ∃ E, nameEndP (d.data.toList.drop a.toNat) F = E := ⟨_, rfl⟩
 obtain ⟨Q, hQ⟩ : ∃ Q, skipP (d.data.toList.drop a.toNat) E = Q := ⟨_, rfl⟩
 obtain ⟨O, hO⟩ : ∃ O, skipP (d.data.toList.drop a.toNat) (Q + 1) = O := ⟨_, rfl⟩
 have g1 := skip_ge (d.data.toList.drop a.toNat) i
 have g2 := name_ge (d.data.toList.drop a.toNat) F
 have g3 := skip_ge (d.data.toList.drop a.toNat) E
 have g4 := skip_ge (d.data.toList.drop a.toNat) (Q + 1)
 rw [hF] at g1
 rw [hE] at g2
 rw [hQ] at g3
 rw [hO] at g4
 have e1 : skipP d.data.toList (a + i) = a + F := by rw [skip_rest _ _ _ h0 (by omega) hi, hF]
 have e2 : nameEndP d.data.toList (a + F) = a + E := by rw [name_rest _ _ _ h0 (by omega) (by omega), hE]
 have e3 : skipP d.data.toList (a + E) = a + Q := by rw [skip_rest _ _ _ h0 (by omega) (by omega), hQ]
 have e4 : skipP d.data.toList (a + Q + 1) = a + O := by rw [show a + Q + 1 = a + (Q + 1) from by omega, skip_rest _ _ _ h0 (by omega) (by omega), hO]
 have e5 : partB d (a + O) (a + O + 1) = partB (restB d a) O (O + 1) := by rw [show a + O + 1 = a + (O + 1) from by omega, part_rest _ _ _ _ h0 (by omega) (by omega)]
 have e6 : d.data.toList.drop (a + O + 1).toNat = (d.data.toList.drop a.toNat).drop (O + 1).toNat := by rw [show a + O + 1 = a + (O + 1) from by omega, drop_rest _ _ _ h0 (by omega)]
 have e7 : partB d (a + F) (a + E) = partB (restB d a) F E := part_rest _ _ _ _ h0 (by omega) (by omega)
 have e8 := fun s => stands_rest d a Q s h0 (by omega)
 have e9 := fun s => stands_rest d a O s h0 (by omega)
 simp only [hF, hE, hQ, hO, e1, e2, e3, e4, e5, e6, e7, e8, e9]
 obtain ⟨c, hc⟩ : ∃ c, Lib.cut ((d.data.toList.drop a.toNat).drop (O + 1).toNat) (partB (restB d a) O (O + 1)).data.toList = c := ⟨_, rfl⟩
 rw [hc]
 by_cases c1 : F = i
 ·rw [if_pos c1, if_pos (by omega)]; rfl
 rw [if_neg c1, if_neg (by omega)]
 by_cases c2 : E = F
 ·rw [if_pos c2, if_pos (by omega)]; rfl
 rw [if_neg c2, if_neg (by omega)]
 by_cases c3 : standsB (restB d a) Q ⟨#[61]⟩ = false
 ·rw [if_pos c3, if_pos c3]; rfl
 rw [if_neg c3, if_neg c3]
 by_cases c4 : standsB (restB d a) O ⟨#[34]⟩ = false ∧ standsB (restB d a) O ⟨#[39]⟩ = false
 ·rw [if_pos c4, if_pos c4]; rfl
 rw [if_neg c4, if_neg c4]
 by_cases c5 : c.2.2 = false
 ·rw [if_pos c5, if_pos c5]; rfl
 rw [if_neg c5, if_neg c5]
 by_cases c6 : 0 ≤ Lib.indexByte c.1 60
 ·rw [if_pos c6, if_pos c6]; rfl
 rw [if_neg c6, if_neg c6]
 cases dec c.1 with
 | none => rfl
 | some v =>
  show some ([(⟨2, a + F, a + O + (c.1.length : Int) + 2, _, _⟩ : Tok)], a + O + (c.1.length : Int) + 2) = some ([(⟨2, a + F, a + (O + (c.1.length : Int) + 2), _, _⟩ : Tok)], a + (O + (c.1.length : Int) + 2))
  rw [show a + O + (c.1.length : Int) + 2 = a + (O + (c.1.length : Int) + 2) from by omega]
theorem attrs_rest (d : ByteArray) (a : Int) (h0 : 0 ≤ a) (h1 : a ≤ (d.size : Int)) : ∀ (n : Nat) (i : Int) (acc : List Tok), 0 ≤ i → i ≤ ((restB d a).size : Int) → attrsF d n (a + i) (acc.map (shT a)) = shR a (attrsF (restB d a) n i acc) := by
 intro n
 have hsz : d.data.toList.length = d.size := (Lib.size_eq d).symm
 induction n with
 | zero => intro i acc _ _; rfl
 | succ n ih =>
  intro i acc hi hi1
  unfold attrsF
  rw [rest_list, skip_rest _ _ _ h0 (by omega) hi]
  have g1 := skip_ge (d.data.toList.drop a.toNat) i
  obtain ⟨I, hI⟩ : ∃ I, skipP (d.data.toList.drop a.toNat) i = I := ⟨_, rfl⟩
  rw [hI] at g1 ⊢
  rw [stands_rest _ _ _ _ h0 (by omega), stands_rest _ _ _ _ h0 (by omega), attr_rest d a i h0 h1 hi]
  by_cases c1 : standsB (restB d a) I ⟨#[62]⟩ = true
  ·rw [if_pos c1, if_pos c1]
   show some _ = some ((acc ++ _).map (shT a), _)
   rw [List.map_append, show a + I + 1 = a + (I + 1) from by omega]
   rfl
  rw [if_neg c1, if_neg c1]
  by_cases c2 : standsB (restB d a) I ⟨#[47, 62]⟩ = true
  ·rw [if_pos c2, if_pos c2]
   show some _ = some ((acc ++ _).map (shT a), _)
   rw [List.map_append, show a + I + 2 = a + (I + 2) from by omega]
   rfl
  rw [if_neg c2, if_neg c2]
  cases hA : attrP (restB d a) i with
  | none => rfl
  | some v =>
   obtain ⟨new, p⟩ := v
   have hr := attr_room (restB d a) i hi hi1 new p hA
   show attrsF d n (a + p) (acc.map (shT a) ++ new.map (shT a)) = _
   rw [← List.map_append]
   exact ih p (acc ++ new) (by omega) hr.2.1
theorem attrs_fuel (d : ByteArray) : ∀ (n m : Nat) (i : Int) (acc : List Tok), 0 ≤ i → i ≤ (d.size : Int) → (d.size : Int) - i < n → (d.size : Int) - i < m → attrsF d n i acc = attrsF d m i acc := by
 intro n
 induction n with
 | zero => intro m i acc _ _ _ _; omega
 | succ n ih =>
  intro m i acc h0 h1 hn hm
  obtain ⟨m, rfl⟩ : ∃ j, m = j + 1 := ⟨m - 1, by omega⟩
  unfold attrsF
  cases hA : attrP d i with
  | none => rfl
  | some v =>
   obtain ⟨new, p⟩ := v
   have hr := attr_room d i h0 h1 new p hA
   simp only
   rw [ih m p (acc ++ new) (by omega) hr.2.1 (by omega) (by omega)]
theorem tag_rest (d : ByteArray) (a i : Int) (h0 : 0 ≤ a) (h1 : a ≤ (d.size : Int)) (hi : 0 ≤ i) (hi1 : i < ((restB d a).size : Int)) : tagP d (a + i) = shR a (tagP (restB d a) i) := by
 have hsz : d.data.toList.length = d.size := (Lib.size_eq d).symm
 have hrs := rest_size d a h0 h1
 have hE1 := nameEndP_in (restB d a).data.toList (i + 1) (by omega) (by rw [← Lib.size_eq]; omega)
 rw [← Lib.size_eq] at hE1
 unfold tagP
 rw [rest_list] at hE1 ⊢
 obtain ⟨E, hE⟩ : ∃ E, nameEndP (d.data.toList.drop a.toNat) (i + 1) = E := ⟨_, rfl⟩
 have e1 : nameEndP d.data.toList (a + i + 1) = a + E := by rw [show a + i + 1 = a + (i + 1) from by omega, name_rest _ _ _ h0 (by omega) (by omega), hE]
 rw [hE] at hE1
 have e2 : partB d (a + i + 1) (a + E) = partB (restB d a) (i + 1) E := by rw [show a + i + 1 = a + (i + 1) from by omega, part_rest _ _ _ _ h0 (by omega) (by omega)]
 simp only [hE, e1, e2]
 by_cases c : E = i + 1
 ·rw [if_pos c, if_pos (by omega)]; rfl
 rw [if_neg c, if_neg (by omega)]
 have := attrs_rest d a h0 h1 ((restB d a).size + 1) E [⟨1, i, E, partB (restB d a) (i + 1) E, ⟨#[]⟩⟩] (by omega) hE1.2
 rw [← this]
 exact attrs_fuel d _ _ _ _ (by omega) (by omega) (by omega) (by omega)
theorem step_rest (d : ByteArray) (a i : Int) (h0 : 0 ≤ a) (h1 : a ≤ (d.size : Int)) (hi : 0 ≤ i) (hi1 : i < ((restB d a).size : Int)) : stepP d (a + i) = shR a (stepP (restB d a) i) := by
 have hsz : d.data.toList.length = d.size := (Lib.size_eq d).symm
 unfold stepP
 rw [stands_rest _ _ _ _ h0 hi, stands_rest _ _ _ _ h0 hi, stands_rest _ _ _ _ h0 hi, stands_rest _ _ _ _ h0 hi]
 split
 ·unfold commentP
  rw [rest_list, show (a + i).toNat + 4 = (a + (i + 4)).toNat from by omega, drop_rest _ _ _ h0 (by omega), show (i + 4).toNat = i.toNat + 4 from by omega]
  obtain ⟨j, hj⟩ : ∃ j, Lib.index ((d.data.toList.drop a.toNat).drop (i.toNat + 4)) [45, 45] = j := ⟨_, rfl⟩
  simp only [hj]
  by_cases c : j < 0
  ·rw [if_pos c, if_pos c]; rfl
  rw [if_neg c, if_neg c]
  by_cases c' : Lib.hasPrefix (((d.data.toList.drop a.toNat).drop (i.toNat + 4)).drop j.toNat) [45, 45, 62] = true
  ·rw [if_pos c', if_pos c', show a + i + 4 + j + 3 = a + (i + 4 + j + 3) from by omega]; rfl
  ·rw [if_neg c', if_neg c']; rfl
 split
 ·unfold plainP
  rw [rest_list, show (a + i).toNat + 9 = (a + (i + 9)).toNat from by omega, drop_rest _ _ _ h0 (by omega), show (i + 9).toNat = i.toNat + 9 from by omega]
  obtain ⟨c, hc⟩ : ∃ c, Lib.cut ((d.data.toList.drop a.toNat).drop (i.toNat + 9)) [93, 93, 62] = c := ⟨_, rfl⟩
  simp only [hc]
  by_cases c5 : c.2.2 = true
  ·rw [if_pos c5, if_pos c5, show a + i + 9 + (c.1.length : Int) + 3 = a + (i + 9 + (c.1.length : Int) + 3) from by omega]; rfl
  ·rw [if_neg c5, if_neg c5]; rfl
 split
 ·unfold closingP
  rw [rest_list]
  obtain ⟨E, hE⟩ : ∃ E, nameEndP (d.data.toList.drop a.toNat) (i + 2) = E := ⟨_, rfl⟩
  obtain ⟨T, hT⟩ : ∃ T, skipP (d.data.toList.drop a.toNat) E = T := ⟨_, rfl⟩
  have g1 := name_ge (d.data.toList.drop a.toNat) (i + 2)
  have g2 := skip_ge (d.data.toList.drop a.toNat) E
  rw [hE] at g1
  rw [hT] at g2
  have e1 : nameEndP d.data.toList (a + i + 2) = a + E := by rw [show a + i + 2 = a + (i + 2) from by omega, name_rest _ _ _ h0 (by omega) (by omega), hE]
  have e2 : skipP d.data.toList (a + E) = a + T := by rw [skip_rest _ _ _ h0 (by omega) (by omega), hT]
  have e3 : partB d (a + i + 2) (a + E) = partB (restB d a) (i + 2) E := by rw [show a + i + 2 = a + (i + 2) from by omega, part_rest _ _ _ _ h0 (by omega) (by omega)]
  simp only [hE, hT, e1, e2, e3, stands_rest d a T _ h0 (by omega)]
  by_cases c : E = i + 2
  ·rw [if_pos c, if_pos (by omega)]; rfl
  rw [if_neg c, if_neg (by omega)]
  by_cases c' : standsB (restB d a) T ⟨#[62]⟩ = true
  ·rw [if_pos c', if_pos c', show a + T + 1 = a + (T + 1) from by omega]; rfl
  ·rw [if_neg c', if_neg c']; rfl
 split
 ·exact tag_rest d a i h0 h1 hi hi1
 ·unfold textP
  rw [rest_list, drop_rest _ _ _ h0 hi]
  obtain ⟨b, hb⟩ : ∃ b, (Lib.cut ((d.data.toList.drop a.toNat).drop i.toNat) [60]).1 = b := ⟨_, rfl⟩
  simp only [hb]
  cases dec b with
  | none => rfl
  | some v =>
   show some ([(⟨6, a + i, a + i + (b.length : Int), _, _⟩ : Tok)], a + i + (b.length : Int)) = some ([(⟨6, a + i, a + (i + (b.length : Int)), _, _⟩ : Tok)], a + (i + (b.length : Int)))
   rw [show a + i + (b.length : Int) = a + (i + (b.length : Int)) from by omega]
theorem lexF_fuel (d : ByteArray) : ∀ (n m : Nat) (i : Int) (acc : List Tok), 0 ≤ i → i ≤ (d.size : Int) → (d.size : Int) - i < n → (d.size : Int) - i < m → lexF d n i acc = lexF d m i acc := by
 intro n
 induction n with
 | zero => intro m i acc _ _ _ _; omega
 | succ n ih =>
  intro m i acc h0 h1 hn hm
  obtain ⟨m, rfl⟩ : ∃ j, m = j + 1 := ⟨m - 1, by omega⟩
  unfold lexF
  by_cases hlt : i < (d.size : Int)
  ·rw [if_pos hlt, if_pos hlt]
   cases hA : stepP d i with
   | none => rfl
   | some v =>
    obtain ⟨new, p⟩ := v
    have hr := step_room d i h0 hlt new p hA
    simp only
    rw [ih m p (acc ++ new) (by omega) hr.2.1 (by omega) (by omega)]
  ·rw [if_neg hlt, if_neg hlt]
theorem lexF_rest (d : ByteArray) (a : Int) (h0 : 0 ≤ a) (h1 : a ≤ (d.size : Int)) (pre : List Tok) : ∀ (n : Nat) (i : Int) (acc : List Tok), 0 ≤ i → i ≤ ((restB d a).size : Int) → lexF d n (a + i) (pre ++ acc.map (shT a)) = (lexF (restB d a) n i acc).map fun l => pre ++ l.map (shT a) := by
 intro n
 have hrs := rest_size d a h0 h1
 induction n with
 | zero => intro i acc _ _; rfl
 | succ n ih =>
  intro i acc hi hi1
  unfold lexF
  by_cases hlt : i < ((restB d a).size : Int)
  ·rw [if_pos hlt, if_pos (by omega), step_rest d a i h0 h1 hi hlt]
   cases hA : stepP (restB d a) i with
   | none => rfl
   | some v =>
    obtain ⟨new, p⟩ := v
    have hr := step_room (restB d a) i hi hlt new p hA
    show lexF d n (a + p) (pre ++ acc.map (shT a) ++ new.map (shT a)) = _
    rw [List.append_assoc, ← List.map_append]
    exact ih p (acc ++ new) (by omega) hr.2.1
  ·rw [if_neg hlt, if_neg (by omega)]; rfl
theorem index_append (l m s : List UInt8) (h : 0 ≤ Lib.index l s) : Lib.index (l ++ m) s = Lib.index l s := by
 induction l with
 | nil =>
  cases s with
  | nil => rw [Lib.index_empty, Lib.index_empty]
  | cons c t => exact absurd h (by show ¬ (0 : Int) ≤ -1; omega)
 | cons b l ih =>
  rw [List.cons_append]
  unfold Lib.index at h ⊢
  by_cases c1 : s.isPrefixOf (b :: l) = true
  ·rw [if_pos c1]
   obtain ⟨t, ht⟩ := List.isPrefixOf_iff_prefix.1 c1
   rw [if_pos (List.isPrefixOf_iff_prefix.2 ⟨t ++ m, by rw [← List.append_assoc, ht]; rfl⟩)]
  ·rw [if_neg c1] at h ⊢
   have hge : 0 ≤ Lib.index l s := by
    by_cases c2 : (Lib.index l s == -1) = true
    ·rw [if_pos c2] at h; exact absurd h (by decide)
    ·rw [if_neg c2] at h
     have hne : ¬ Lib.index l s = -1 := by simpa using c2
     rcases Lib.index_spec l s with ⟨h1, _⟩ | ⟨i, h1, _⟩
     ·exact absurd h1 hne
     ·omega
   rw [ih hge]
   have hroom := Lib.index_room l s hge
   have hnp : ¬ s.isPrefixOf (b :: (l ++ m)) = true := by
    intro hp
    apply c1
    obtain ⟨t, ht⟩ := List.isPrefixOf_iff_prefix.1 hp
    rw [← List.cons_append] at ht
    exact List.isPrefixOf_iff_prefix.2 (List.prefix_of_prefix_length_le ⟨t, ht⟩ ⟨m, rfl⟩ (by simp only [List.length_cons]; omega))
   rw [if_neg hnp]
theorem cut_append (l m s : List UInt8) (h : (Lib.cut l s).2.2 = true) : (Lib.cut (l ++ m) s).1 = (Lib.cut l s).1 ∧ (Lib.cut (l ++ m) s).2.2 = true := by
 unfold Lib.cut at h ⊢
 by_cases c : 0 ≤ Lib.index l s
 ·have hroom := Lib.index_room l s c
  rw [index_append l m s c, if_pos c, if_pos c]
  exact ⟨by show (l ++ m).take _ = l.take _; rw [List.take_append_of_le_length (by omega)], rfl⟩
 ·rw [if_neg c] at h; cases h
theorem skip_append (l m : List UInt8) (i : Int) (h0 : 0 ≤ i) (h : skipP l i < l.length) : skipP (l ++ m) i = skipP l i := by
 have g := skip_ge l i
 have hlt : i.toNat < l.length := by omega
 unfold skipP at h ⊢
 rw [if_pos (by omega)] at h
 rw [if_pos (zz24), if_pos (by omega), List.drop_append_of_le_length (by omega)]
 have : ∀ (u v : List UInt8), (u.takeWhile spaceB).length < u.length → (u ++ v).takeWhile spaceB = u.takeWhile spaceB := by
  intro u v
  induction u with
  | nil => intro h; exact absurd h (by simp)
  | cons c u ih =>
   intro h
   rw [List.cons_append, List.takeWhile_cons, List.takeWhile_cons]
   cases hc : spaceB c with
   | false => rfl
   | true =>
    rw [List.takeWhile_cons, hc] at h
    simp only [if_true, List.length_cons] at h ⊢
    rw [ih (by omega)]
 rw [this _ _ (by rw [List.length_drop]; omega)]
theorem nameLen_cons (c : UInt8) (t : List UInt8) : nameLen (c :: t) = if nameB c = true then 1 + (t.takeWhile fun d => nameB d || moreB d).length else 0 := rfl
theorem name_append (l m : List UInt8) (i : Int) (h0 : 0 ≤ i) (h : nameEndP l i < l.length) : nameEndP (l ++ m) i = nameEndP l i := by
 have g := name_ge l i
 have hlt : i.toNat < l.length := by omega
 unfold nameEndP at h ⊢
 rw [if_pos (by omega)] at h
 rw [if_pos (zz24), if_pos (by omega), List.drop_append_of_le_length (by omega)]
 have : ∀ (p : UInt8 → Bool) (u v : List UInt8), (u.takeWhile p).length < u.length → (u ++ v).takeWhile p = u.takeWhile p := by
  intro p u v
  induction u with
  | nil => intro h; exact absurd h (by simp)
  | cons c u ih =>
   intro h
   rw [List.cons_append, List.takeWhile_cons, List.takeWhile_cons]
   cases hc : p c with
   | false => rfl
   | true =>
    rw [List.takeWhile_cons, hc] at h
    simp only [if_true, List.length_cons] at h ⊢
    rw [ih (by omega)]
 have hn : ∀ (u v : List UInt8), nameLen u < u.length → nameLen (u ++ v) = nameLen u := by
  intro u v h
  cases u with
  | nil => exact absurd h (by simp [nameLen])
  | cons c u =>
   rw [List.cons_append, nameLen_cons, nameLen_cons]
   rw [nameLen_cons] at h
   cases hc : nameB c with
   | false => rfl
   | true =>
    rw [hc] at h
    simp only [if_true, List.length_cons] at h ⊢
    rw [this _ _ _ (by omega)]
 rw [hn _ _ (by rw [List.length_drop]; omega)]
theorem app_list (d e : ByteArray) : (d ++ e).data.toList = d.data.toList ++ e.data.toList := by simp
theorem app_size (d e : ByteArray) : (d ++ e).size = d.size + e.size := by rw [Lib.size_eq, app_list, List.length_append, ← Lib.size_eq, ← Lib.size_eq]
theorem stands_app (d e : ByteArray) (i : Int) (s : ByteArray) (h : standsB d i s = true) : standsB (d ++ e) i s = true := by
 unfold standsB Lib.hasPrefix at h ⊢
 obtain ⟨t, ht⟩ := List.isPrefixOf_iff_prefix.1 h
 refine List.isPrefixOf_iff_prefix.2 ?_
 by_cases c : i.toNat ≤ d.data.toList.length
 ·rw [app_list, List.drop_append_of_le_length c]
  exact ⟨t ++ e.data.toList, by rw [← List.append_assoc, ht]⟩
 ·rw [List.drop_eq_nil_of_le (by omega)] at ht
  have := List.append_eq_nil_iff.1 ht
  rw [this.1]; exact List.nil_prefix
theorem part_app (d e : ByteArray) (i j : Int) (h : j ≤ (d.size : Int)) (hi : 0 ≤ i) : partB (d ++ e) i j = partB d i j := by
 have hsz : d.data.toList.length = d.size := (Lib.size_eq d).symm
 unfold partB
 apply ByteArray.ext; apply Array.ext'
 rw [Lib.extract_data, Lib.extract_data, app_list]
 by_cases c : i.toNat ≤ d.data.toList.length
 ·rw [List.drop_append_of_le_length c, List.take_append_of_le_length (by rw [List.length_drop]; omega)]
 ·rw [show j.toNat - i.toNat = 0 from by omega, List.take_zero, List.take_zero]
theorem stands_at (d e : ByteArray) (i : Int) (c : UInt8) (t s : List UInt8) (h : d.data.toList.drop i.toNat = c :: t) : standsB (d ++ e) i ⟨s.toArray⟩ = s.isPrefixOf (c :: (t ++ e.data.toList)) := by
 have hlen := congrArg List.length h
 rw [List.length_drop, List.length_cons] at hlen
 unfold standsB Lib.hasPrefix
 rw [app_list, List.drop_append_of_le_length (by omega), h]
 rfl
theorem stands_in (d : ByteArray) (i : Int) (c : UInt8) (t s : List UInt8) (h : d.data.toList.drop i.toNat = c :: t) : standsB d i ⟨s.toArray⟩ = s.isPrefixOf (c :: t) := by
 unfold standsB Lib.hasPrefix
 rw [h]
theorem attr_app (d e : ByteArray) (a : Int) (h0 : 0 ≤ a) (h1 : a ≤ (d.size : Int)) (new : List Tok) (a' : Int) (h : attrP d a = some (new, a')) : attrP (d ++ e) a = some (new, a') ∧ skipP (d ++ e).data.toList a = skipP d.data.toList a ∧ ∃ c t, d.data.toList.drop (skipP d.data.toList a).toNat = c :: t ∧ nameB c = true := by
 have hroom := attr_room d a h0 h1 new a' h
 have hsz : d.data.toList.length = d.size := (Lib.size_eq d).symm
 rw [app_list]
 have hdup := h
 unfold attrP at h
 obtain ⟨F, hF⟩ : ∃ F, skipP d.data.toList a = F := ⟨_, rfl⟩
 obtain ⟨E, hE⟩ : ∃ E, nameEndP d.data.toList F = E := ⟨_, rfl⟩
 obtain ⟨Q, hQ⟩ : ∃ Q, skipP d.data.toList E = Q := ⟨_, rfl⟩
 obtain ⟨O, hO⟩ : ∃ O, skipP d.data.toList (Q + 1) = O := ⟨_, rfl⟩
 simp only [hF, hE, hQ, hO] at h
 have hF1 := skipP_in d.data.toList a (by omega) (by omega)
 rw [hF] at hF1
 have hE1 := nameEndP_in d.data.toList F (by omega) (by omega)
 rw [hE] at hE1
 have hQ1 := skipP_in d.data.toList E (by omega) (by omega)
 rw [hQ] at hQ1
 by_cases c1 : F = a
 ·rw [if_pos c1] at h; cases h
 rw [if_neg c1] at h
 by_cases c2 : E = F
 ·rw [if_pos c2] at h; cases h
 rw [if_neg c2] at h
 by_cases c3 : standsB d Q ⟨#[61]⟩ = false
 ·rw [if_pos c3] at h; cases h
 rw [if_neg c3] at h
 have hr1 := stands_room d Q 61 (by omega) (by simpa using c3)
 have hO1 := skipP_in d.data.toList (Q + 1) (by omega) (by omega)
 rw [hO] at hO1
 by_cases c4 : standsB d O ⟨#[34]⟩ = false ∧ standsB d O ⟨#[39]⟩ = false
 ·rw [if_pos c4] at h; cases h
 rw [if_neg c4] at h
 have hr2 : O < (d.size : Int) := by
  by_cases c : standsB d O ⟨#[34]⟩ = true
  ·exact stands_room d O 34 (by omega) c
  ·by_cases c' : standsB d O ⟨#[39]⟩ = true
   ·exact stands_room d O 39 (by omega) c'
   ·exact absurd ⟨by simpa using c, by simpa using c'⟩ c4
 have e1 : skipP (d.data.toList ++ e.data.toList) a = F := by rw [skip_append _ _ _ h0 (by omega), hF]
 have e2 : nameEndP (d.data.toList ++ e.data.toList) F = E := by rw [name_append _ _ _ (by omega) (by omega), hE]
 have e3 : skipP (d.data.toList ++ e.data.toList) E = Q := by rw [skip_append _ _ _ (by omega) (by omega), hQ]
 have e4 : skipP (d.data.toList ++ e.data.toList) (Q + 1) = O := by rw [skip_append _ _ _ (by omega) (by omega), hO]
 have e5 : partB (d ++ e) O (O + 1) = partB d O (O + 1) := part_app _ _ _ _ (by omega) (by omega)
 have e6 : partB (d ++ e) F E = partB d F E := part_app _ _ _ _ (by omega) (by omega)
 have e7 : (d.data.toList ++ e.data.toList).drop (O + 1).toNat = d.data.toList.drop (O + 1).toNat ++ e.data.toList := List.drop_append_of_le_length (by omega)
 refine ⟨?_, by rw [e1, hF], ?_⟩
 ·unfold attrP
  rw [app_list]
  simp only [e1, e2, e3, e4, e5, e6, e7]
  by_cases c5 : (Lib.cut (d.data.toList.drop (O + 1).toNat) (partB d O (O + 1)).data.toList).2.2 = false
  ·rw [if_pos c5] at h; cases h
  obtain ⟨f1, f2⟩ := cut_append _ e.data.toList _ (by simpa using c5)
  have c3' := stands_app d e Q _ (by simpa using c3)
  have c4' : ¬ (standsB (d ++ e) O ⟨#[34]⟩ = false ∧ standsB (d ++ e) O ⟨#[39]⟩ = false) := by
   intro ⟨g1, g2⟩
   apply c4
   constructor
   ·cases hx : standsB d O ⟨#[34]⟩ with
    | false => rfl
    | true => rw [stands_app d e O _ hx] at g1; cases g1
   ·cases hx : standsB d O ⟨#[39]⟩ with
    | false => rfl
    | true => rw [stands_app d e O _ hx] at g2; cases g2
  rw [if_neg c5] at h
  rw [f1, f2, if_neg c1, if_neg c2, if_neg (by rw [c3']; decide), if_neg c4', if_neg (by decide)]
  exact h
 ·have hlt : F.toNat < d.data.toList.length := by omega
  have hcons := List.drop_eq_getElem_cons hlt
  rw [hF]
  refine ⟨_, _, hcons, ?_⟩
  unfold nameEndP at hE
  rw [if_pos (by omega), hcons, nameLen_cons] at hE
  by_cases cb : nameB d.data.toList[F.toNat] = true
  ·exact cb
  ·rw [if_neg cb] at hE; omega
theorem attrs_app (d e : ByteArray) : ∀ (n : Nat) (a : Int) (acc r : List Tok) (a' : Int), 0 ≤ a → a ≤ (d.size : Int) → attrsF d n a acc = some (r, a') → attrsF (d ++ e) n a acc = some (r, a') := by
 intro n
 have hsz : d.data.toList.length = d.size := (Lib.size_eq d).symm
 induction n with
 | zero => intro a acc r a' _ _ h; cases h
 | succ n ih =>
  intro a acc r a' h0 h1 h
  unfold attrsF at h ⊢
  by_cases c1 : standsB d (skipP d.data.toList a) ⟨#[62]⟩ = true
  ·rw [if_pos c1] at h
   have hr := stands_room d _ 62 (by have := skip_ge d.data.toList a; omega) c1
   rw [app_list, skip_append _ _ _ h0 (by omega), if_pos (stands_app d e _ _ c1)]
   exact h
  rw [if_neg c1] at h
  by_cases c2 : standsB d (skipP d.data.toList a) ⟨#[47, 62]⟩ = true
  ·rw [if_pos c2] at h
   have hr := stands_room2 d _ ⟨#[47, 62]⟩ (by have := skip_ge d.data.toList a; omega) (by decide) c2
   rw [show ((⟨#[47, 62]⟩ : ByteArray).size : Int) = 2 from rfl] at hr
   have h47 : ¬ standsB (d ++ e) (skipP d.data.toList a) ⟨#[62]⟩ = true := by
    obtain ⟨t, ht⟩ := standsB_take d _ _ c2
    have := stands_at d e (skipP d.data.toList a) 47 (62 :: t) [62] ht
    rw [show (⟨#[62]⟩ : ByteArray) = ⟨([62] : List UInt8).toArray⟩ from rfl, this]
    simp [List.isPrefixOf]
   rw [app_list, skip_append _ _ _ h0 (by omega), if_neg h47, if_pos (stands_app d e _ _ c2)]
   exact h
  rw [if_neg c2] at h
  cases hA : attrP d a with
  | none => rw [hA] at h; cases h
  | some v =>
   obtain ⟨new, p⟩ := v
   rw [hA] at h
   have hr := attr_room d a (by omega) h1 new p hA
   obtain ⟨f1, f2, c, t, f3, f4⟩ := attr_app d e a h0 h1 new p hA
   have g1 : ¬ standsB (d ++ e) (skipP d.data.toList a) ⟨#[62]⟩ = true := by
    rw [show (⟨#[62]⟩ : ByteArray) = ⟨([62] : List UInt8).toArray⟩ from rfl, stands_at d e _ c t [62] f3]
    intro hp
    simp only [List.isPrefixOf, Bool.and_eq_true, beq_iff_eq] at hp
    rw [← hp.1] at f4
    exact absurd f4 (by decide)
   have g2 : ¬ standsB (d ++ e) (skipP d.data.toList a) ⟨#[47, 62]⟩ = true := by
    rw [show (⟨#[47, 62]⟩ : ByteArray) = ⟨([47, 62] : List UInt8).toArray⟩ from rfl, stands_at d e _ c t [47, 62] f3]
    intro hp
    simp only [List.isPrefixOf, Bool.and_eq_true, beq_iff_eq] at hp
    rw [← hp.1] at f4
    exact absurd f4 (by decide)
   rw [f2, if_neg g1, if_neg g2, f1]
   exact ih p (acc ++ new) r a' (by omega) hr.2.1 h
theorem tag_app (d e : ByteArray) (a : Int) (h0 : 0 ≤ a) (h1 : a < (d.size : Int)) (new : List Tok) (a' : Int) (h : tagP d a = some (new, a')) : tagP (d ++ e) a = some (new, a') := by
 have hsz : d.data.toList.length = d.size := (Lib.size_eq d).symm
 unfold tagP at h ⊢
 obtain ⟨E, hE⟩ : ∃ E, nameEndP d.data.toList (a + 1) = E := ⟨_, rfl⟩
 have hE1 := nameEndP_in d.data.toList (a + 1) (by omega) (by omega)
 rw [hE] at hE1
 simp only [hE] at h
 by_cases c : E = a + 1
 ·rw [if_pos c] at h; cases h
 rw [if_neg c] at h
 have hElt : E < (d.size : Int) := by
  apply Classical.byContradiction
  intro hge
  have hEe : E = (d.size : Int) := by omega
  unfold attrsF at h
  have hs : skipP d.data.toList E = E := by unfold skipP; rw [if_neg (by omega)]
  rw [hs] at h
  have hn : ∀ s : ByteArray, 0 < s.size → standsB d E s = false := by
   intro s hs
   cases hx : standsB d E s with
   | false => rfl
   | true => have := stands_room2 d E s (by omega) hs hx; omega
  rw [if_neg (by rw [hn _ (by decide)]; decide), if_neg (by rw [hn _ (by decide)]; decide)] at h
  have : attrP d E = none := by
   unfold attrP
   simp only [hs, if_true]
  rw [this] at h; cases h
 have hEa : nameEndP (d ++ e).data.toList (a + 1) = E := by rw [app_list, name_append _ _ _ (by omega) (by omega), hE]
 simp only [hEa]
 rw [if_neg c, part_app _ _ _ _ (by omega) (by omega)]
 have := attrs_app d e _ _ _ _ _ (by omega) (by omega) h
 rw [← this]
 have hbig : ∀ (k : Nat) (n : Nat) (a : Int) (acc : List Tok) (v : List Tok × Int), attrsF (d ++ e) n a acc = some v → attrsF (d ++ e) (n + k) a acc = some v := by
  intro k n
  induction n with
  | zero => intro a acc v h; cases h
  | succ n ih =>
   intro a acc v h
   rw [show n + 1 + k = n + k + 1 from by omega]
   unfold attrsF at h ⊢
   split
   ·rename_i c; rw [if_pos c] at h; exact h
   ·rename_i c
    rw [if_neg c] at h
    split
    ·rename_i c; rw [if_pos c] at h; exact h
    ·rename_i c
     rw [if_neg c] at h
     cases hA : attrP (d ++ e) a with
     | none => rw [hA] at h; cases h
     | some u => rw [hA] at h; exact ih _ _ _ h
 rw [this]
 have := hbig e.size _ _ _ _ this
 rw [app_size, show d.size + e.size + 1 = d.size + 1 + e.size from by omega]
 exact this
theorem step_app (d e : ByteArray) (a : Int) (h0 : 0 ≤ a) (h1 : a < (d.size : Int)) (new : List Tok) (a' : Int) (h : stepP d a = some (new, a')) (h6 : a' = (d.size : Int) → (∃ r, e.data.toList = 60 :: r) ∨ ∀ t, new.getLast? = some t → ¬ t.f0 = 6) : stepP (d ++ e) a = some (new, a') := by
 have hsz : d.data.toList.length = d.size := (Lib.size_eq d).symm
 have hlt : a.toNat < d.data.toList.length := by omega
 obtain ⟨c, t, hcons⟩ : ∃ c t, d.data.toList.drop a.toNat = c :: t := ⟨_, _, List.drop_eq_getElem_cons hlt⟩
 have s1 := fun s => stands_in d a c t s hcons
 have s2 := fun s => stands_at d e a c t s hcons
 have hdrop : (d ++ e).data.toList.drop a.toNat = c :: (t ++ e.data.toList) := by
  rw [app_list, List.drop_append_of_le_length (by omega), hcons]; rfl
 unfold stepP at h ⊢
 rw [show (⟨#[60, 33, 45, 45]⟩ : ByteArray) = ⟨([60, 33, 45, 45] : List UInt8).toArray⟩ from rfl, show (⟨#[60, 33, 91, 67, 68, 65, 84, 65, 91]⟩ : ByteArray) = ⟨([60, 33, 91, 67, 68, 65, 84, 65, 91] : List UInt8).toArray⟩ from rfl,
  show (⟨#[60, 47]⟩ : ByteArray) = ⟨([60, 47] : List UInt8).toArray⟩ from rfl, show (⟨#[60]⟩ : ByteArray) = ⟨([60] : List UInt8).toArray⟩ from rfl] at h ⊢
 rw [s1, s1, s1, s1] at h
 rw [s2, s2, s2, s2]
 by_cases c0 : c = 60
 ·subst c0
  cases t with
  | nil =>
   rw [if_neg (by decide), if_neg (by decide), if_neg (by decide), if_pos (by decide)] at h
   exfalso
   have hl := congrArg List.length hcons
   rw [List.length_drop, List.length_singleton] at hl
   unfold tagP at h
   have : nameEndP d.data.toList (a + 1) = a + 1 := by unfold nameEndP; rw [if_neg (by omega)]
   simp only [this, if_true] at h
   cases h
  | cons x t =>
   have hdrop1 : d.data.toList.drop (a.toNat + 1) = x :: t := by
    rw [← List.drop_drop, hcons]; rfl
   by_cases c1 : ([60, 33, 45, 45] : List UInt8).isPrefixOf (60 :: x :: t) = true
   ·rw [if_pos c1] at h
    obtain ⟨u, hu⟩ := List.isPrefixOf_iff_prefix.1 c1
    rw [if_pos (List.isPrefixOf_iff_prefix.2 ⟨u ++ e.data.toList, by rw [← List.append_assoc, hu]; rfl⟩)]
    have hd4 : d.data.toList.drop (a.toNat + 4) = u := by
     rw [← List.drop_drop, hcons, ← hu]; rfl
    have hd4' : (d ++ e).data.toList.drop (a.toNat + 4) = u ++ e.data.toList := by
     rw [← List.drop_drop, hdrop, ← List.cons_append, ← hu]; rfl
    unfold commentP at h ⊢
    simp only [hd4, hd4'] at h ⊢
    by_cases c3 : Lib.index u [45, 45] < 0
    ·rw [if_pos c3] at h; cases h
    rw [if_neg c3] at h
    have hroom := Lib.index_room u [45, 45] (by omega)
    rw [index_append _ _ _ (by omega), if_neg c3]
    by_cases c4 : Lib.hasPrefix (u.drop (Lib.index u [45, 45]).toNat) [45, 45, 62] = true
    ·rw [if_pos c4] at h
     have : Lib.hasPrefix ((u ++ e.data.toList).drop (Lib.index u [45, 45]).toNat) [45, 45, 62] = true := by
      unfold Lib.hasPrefix at c4 ⊢
      obtain ⟨v, hv⟩ := List.isPrefixOf_iff_prefix.1 c4
      rw [List.drop_append_of_le_length (by omega)]
      exact List.isPrefixOf_iff_prefix.2 ⟨v ++ e.data.toList, by rw [← List.append_assoc, hv]⟩
     rw [if_pos this, List.take_append_of_le_length (by omega)]
     exact h
    ·rw [if_neg c4] at h; cases h
   rw [if_neg c1] at h
   by_cases c2 : ([60, 33, 91, 67, 68, 65, 84, 65, 91] : List UInt8).isPrefixOf (60 :: x :: t) = true
   ·rw [if_pos c2] at h
    obtain ⟨u, hu⟩ := List.isPrefixOf_iff_prefix.1 c2
    have hno : ¬ ([60, 33, 45, 45] : List UInt8).isPrefixOf (60 :: (x :: t ++ e.data.toList)) = true := by
     rw [← List.cons_append, ← hu]; simp [List.isPrefixOf]
    rw [if_neg hno, if_pos (List.isPrefixOf_iff_prefix.2 ⟨u ++ e.data.toList, by rw [← List.append_assoc, hu]; rfl⟩)]
    have hd9 : d.data.toList.drop (a.toNat + 9) = u := by
     rw [← List.drop_drop, hcons, ← hu]; rfl
    have hd9' : (d ++ e).data.toList.drop (a.toNat + 9) = u ++ e.data.toList := by
     rw [← List.drop_drop, hdrop, ← List.cons_append, ← hu]; rfl
    unfold plainP at h ⊢
    simp only [hd9, hd9'] at h ⊢
    by_cases c3 : (Lib.cut u [93, 93, 62]).2.2 = true
    ·obtain ⟨f1, f2⟩ := cut_append u e.data.toList _ c3
     rw [if_pos c3] at h
     rw [f1, if_pos f2]
     exact h
    ·rw [if_neg c3] at h; cases h
   rw [if_neg c2] at h
   by_cases c3 : x = 47
   ·subst c3
    have hno1 : ¬ ([60, 33, 45, 45] : List UInt8).isPrefixOf (60 :: (47 :: t ++ e.data.toList)) = true := by
     simp [List.isPrefixOf]
    have hno2 : ¬ ([60, 33, 91, 67, 68, 65, 84, 65, 91] : List UInt8).isPrefixOf (60 :: (47 :: t ++ e.data.toList)) = true := by
     simp [List.isPrefixOf]
    have hy1 : ([60, 47] : List UInt8).isPrefixOf (60 :: 47 :: t) = true := by simp [List.isPrefixOf]
    have hy2 : ([60, 47] : List UInt8).isPrefixOf (60 :: (47 :: t ++ e.data.toList)) = true := by simp [List.isPrefixOf]
    rw [if_pos hy1] at h
    rw [if_neg hno1, if_neg hno2, if_pos hy2]
    have hl := congrArg List.length hcons
    rw [List.length_drop, List.length_cons, List.length_cons] at hl
    unfold closingP at h ⊢
    obtain ⟨E, hE⟩ : ∃ E, nameEndP d.data.toList (a + 2) = E := ⟨_, rfl⟩
    obtain ⟨T, hT⟩ : ∃ T, skipP d.data.toList E = T := ⟨_, rfl⟩
    have hE1 := nameEndP_in d.data.toList (a + 2) (by omega) (by omega)
    rw [hE] at hE1
    have hT1 := skipP_in d.data.toList E (by omega) (by omega)
    rw [hT] at hT1
    simp only [hE, hT] at h
    by_cases c : E = a + 2
    ·rw [if_pos c] at h; cases h
    rw [if_neg c] at h
    by_cases c' : standsB d T ⟨#[62]⟩ = true
    ·rw [if_pos c'] at h
     have hr := stands_room d T 62 (by omega) c'
     have e1 : nameEndP (d ++ e).data.toList (a + 2) = E := by rw [app_list, name_append _ _ _ (by omega) (by omega), hE]
     have e2 : skipP (d ++ e).data.toList E = T := by rw [app_list, skip_append _ _ _ (by omega) (by omega), hT]
     simp only [e1, e2]
     rw [if_neg c, if_pos (stands_app d e T _ c'), part_app _ _ _ _ (by omega) (by omega)]
     exact h
    ·rw [if_neg c'] at h; cases h
   ·have hn3 : ¬ ([60, 47] : List UInt8).isPrefixOf (60 :: x :: t) = true := by
     simp only [List.isPrefixOf, Bool.and_eq_true, beq_iff_eq]
     exact fun hp => c3 hp.2.1.symm
    have hn3' : ¬ ([60, 47] : List UInt8).isPrefixOf (60 :: (x :: t ++ e.data.toList)) = true := by
     simp only [List.cons_append, List.isPrefixOf, Bool.and_eq_true, beq_iff_eq]
     exact fun hp => c3 hp.2.1.symm
    have hy : ([60] : List UInt8).isPrefixOf (60 :: x :: t) = true := by simp [List.isPrefixOf]
    have hy' : ([60] : List UInt8).isPrefixOf (60 :: (x :: t ++ e.data.toList)) = true := by simp [List.isPrefixOf]
    rw [if_neg hn3, if_pos hy] at h
    have hx : nameB x = true := by
     cases hb : nameB x with
     | true => rfl
     | false =>
      exfalso
      have hl := congrArg List.length hcons
      rw [List.length_drop, List.length_cons, List.length_cons] at hl
      unfold tagP at h
      have : nameEndP d.data.toList (a + 1) = a + 1 := by
       unfold nameEndP
       rw [if_pos (by omega), show (a + 1).toNat = a.toNat + 1 from by omega, hdrop1, nameLen_cons, if_neg (by rw [hb]; decide)]; omega
      simp only [this, if_true] at h
      cases h
    have hx33 : ¬ x = 33 := by intro e; rw [e] at hx; exact absurd hx (by decide)
    have hn1' : ¬ ([60, 33, 45, 45] : List UInt8).isPrefixOf (60 :: (x :: t ++ e.data.toList)) = true := by
     simp only [List.cons_append, List.isPrefixOf, Bool.and_eq_true, beq_iff_eq]
     exact fun hp => hx33 hp.2.1.symm
    have hn2' : ¬ ([60, 33, 91, 67, 68, 65, 84, 65, 91] : List UInt8).isPrefixOf (60 :: (x :: t ++ e.data.toList)) = true := by
     simp only [List.cons_append, List.isPrefixOf, Bool.and_eq_true, beq_iff_eq]
     exact fun hp => hx33 hp.2.1.symm
    rw [if_neg hn1', if_neg hn2', if_neg hn3', if_pos hy']
    exact tag_app d e a h0 h1 new a' h
 ·have hn : ∀ (s u : List UInt8), ¬ (60 :: s).isPrefixOf (c :: u) = true := by
   intro s u
   simp only [List.isPrefixOf, Bool.and_eq_true, beq_iff_eq]
   exact fun hp => c0 hp.1.symm
  rw [if_neg (hn _ _), if_neg (hn _ _), if_neg (hn _ _), if_neg (hn _ _)] at h ⊢
  unfold textP at h ⊢
  rw [hdrop]
  rw [hcons] at h
  by_cases c1 : (Lib.cut (c :: t) [60]).2.2 = true
  ·have f1 : (Lib.cut (c :: (t ++ e.data.toList)) [60]).1 = (Lib.cut (c :: t) [60]).1 := (cut_append (c :: t) e.data.toList [60] c1).1
   simp only [f1]
   exact h
  ·have hno : Lib.index (c :: t) [60] = -1 := by
    unfold Lib.cut at c1
    by_cases c2 : 0 ≤ Lib.index (c :: t) [60]
    ·rw [if_pos c2] at c1; exact absurd rfl c1
    ·rcases Lib.index_spec (c :: t) [60] with ⟨h1, _⟩ | ⟨i, h1, _⟩
     ·exact h1
     ·omega
   have hb : (Lib.cut (c :: t) [60]).1 = c :: t := by
    unfold Lib.cut
    rw [hno, if_neg (by decide)]
   have hl := congrArg List.length hcons
   rw [List.length_drop] at hl
   have hb2 : (∃ r, e.data.toList = 60 :: r) → (Lib.cut (c :: (t ++ e.data.toList)) [60]).1 = c :: t := by
    rintro ⟨r, hr⟩
    have hi : Lib.index (c :: (t ++ e.data.toList)) [60] = ((c :: t).length : Nat) := by
     rw [hr, ← List.cons_append]
     apply Lib.index_first
     ·rw [List.length_append]; omega
     ·unfold Lib.occAt
      rw [List.drop_left]; simp [List.isPrefixOf]
     ·intro j hj
      rcases Lib.index_spec (c :: t) [60] with ⟨_, h2⟩ | ⟨i, h1, _⟩
      ·have h3 := h2 j (by omega)
       unfold Lib.occAt at h3 ⊢
       rw [List.drop_append_of_le_length (by omega)]
       obtain ⟨z, zs, hz⟩ : ∃ z zs, (c :: t).drop j = z :: zs := ⟨_, _, List.drop_eq_getElem_cons hj⟩
       rw [hz] at h3 ⊢
       rw [List.cons_append]
       simp only [List.isPrefixOf, Bool.and_true] at h3 ⊢
       exact h3
      ·omega
    unfold Lib.cut
    rw [hi, if_pos (by omega), Int.toNat_natCast, ← List.cons_append]
    exact List.take_left
   simp only [hb] at h
   cases hd : dec (c :: t) with
   | none => rw [hd] at h; cases h
   | some v =>
    rw [hd] at h
    injection h with h; injection h with h2 h3
    subst h3 h2
    rcases h6 (by omega) with hr | h6
    ·simp only [hb2 hr, hd]
    ·exact absurd rfl (h6 _ rfl)
theorem lexF_app (d e : ByteArray) : ∀ (n : Nat) (a : Int) (acc l : List Tok), 0 ≤ a → a ≤ (d.size : Int) → lexF d n a acc = some l → ((∃ r, e.data.toList = 60 :: r) ∨ ∀ t, l.getLast? = some t → ¬ t.f0 = 6) → ∀ m : Nat, (e.size : Int) < m → lexF (d ++ e) (n + m) a acc = lexF (d ++ e) m d.size l := by
 intro n
 induction n with
 | zero => intro a acc l _ _ h; cases h
 | succ n ih =>
  intro a acc l h0 h1 h h6 m hm
  unfold lexF at h
  by_cases hlt : a < (d.size : Int)
  ·rw [if_pos hlt] at h
   cases hS : stepP d a with
   | none => rw [hS] at h; cases h
   | some v =>
    obtain ⟨new, a'⟩ := v
    rw [hS] at h
    have hroom := step_room d a h0 hlt new a' hS
    have hstep := step_app d e a h0 hlt new a' hS (by
     intro ha
     refine h6.imp id fun h6 t ht => ?_
     have hstop : lexF d n a' (acc ++ new) = some (acc ++ new) := by
      cases n with
      | zero => cases h
      | succ n => unfold lexF; rw [if_neg (by omega)]
     simp only [hstop] at h
     obtain rfl := Option.some.inj h
     apply h6 t
     rw [List.getLast?_append, ht]; rfl)
    rw [show n + 1 + m = n + m + 1 from by omega]
    conv => lhs; unfold lexF
    rw [if_pos (by rw [app_size]; omega), hstep]
    exact ih a' (acc ++ new) l (by omega) hroom.2.1 h h6 m hm
  ·rw [if_neg hlt] at h
   obtain rfl := Option.some.inj h
   have ha : a = (d.size : Int) := by omega
   subst ha
   exact lexF_fuel (d ++ e) _ _ _ _ (by omega) (by rw [app_size]; omega) (by rw [app_size]; omega) (by rw [app_size]; omega)
theorem lexO_app (d e : ByteArray) (l m : List Tok) (hd : lexO d = some l) (he : lexO e = some m) (h6 : (∃ r, e.data.toList = 60 :: r) ∨ ∀ t, l.getLast? = some t → ¬ t.f0 = 6) : lexO (d ++ e) = some (l ++ m.map (shT d.size)) := by
 unfold lexO at hd he ⊢
 have hr : restB (d ++ e) d.size = e := by
  unfold restB
  rw [app_list, show ((d.size : Nat) : Int).toNat = d.data.toList.length from by rw [← Lib.size_eq]; omega, List.drop_left]
 have h1 := lexF_app d e (d.size + 1) 0 [] l (by omega) (by omega) hd h6 (e.size + 1) (by omega)
 have h2 := lexF_fuel (d ++ e) ((d ++ e).size + 1) (d.size + 1 + (e.size + 1)) 0 [] (by omega) (by omega) (by omega) (by rw [app_size]; omega)
 rw [h2, h1]
 have h3 := lexF_rest (d ++ e) d.size (by omega) (by rw [app_size]; omega) l (e.size + 1) 0 [] (by omega) (by omega)
 rw [hr, List.map_nil, List.append_nil, he] at h3
 rw [show ((d.size : Nat) : Int) + 0 = (d.size : Nat) from by omega] at h3
 rw [h3]; rfl
def signB (b : UInt8) : Bool := b == 38 || b == 60 || b == 62 || b == 34
theorem esc_sign (b : UInt8) (h : signB b = true) : b = 38 ∨ b = 60 ∨ b = 62 ∨ b = 34 := by
 unfold signB at h
 simp only [Bool.or_eq_true, beq_iff_eq] at h
 rcases h with ((h | h) | h) | h
 ·exact Or.inl h
 ·exact Or.inr (Or.inl h)
 ·exact Or.inr (Or.inr (Or.inl h))
 ·exact Or.inr (Or.inr (Or.inr h))
theorem esc_same (b : UInt8) (h : signB b = false) : escB b = [b] ∧ ¬ b = 38 ∧ ¬ b = 60 := by
 unfold signB at h
 simp only [Bool.or_eq_false_iff, beq_eq_false_iff_ne, ne_eq] at h
 unfold escB
 rw [if_neg h.1.1.1, if_neg h.1.1.2, if_neg h.1.2, if_neg h.2]
 exact ⟨rfl, h.1.1.1, h.1.1.2⟩
theorem escL_cons (b : UInt8) (t : List UInt8) : escL (b :: t) = escB b ++ escL t := by simp [escL]
theorem escL_nil : escL [] = [] := rfl
theorem dec_esc : ∀ l : List UInt8, dec (escL l) = some l
 | [] => rfl
 | b :: t => by
  rw [escL_cons]
  cases h : signB b with
  | true =>
   have hent : ∀ r, entL (escB b ++ r) = ([b], ((escB b).length : Int)) := by
    intro r
    rcases esc_sign b h with rfl | rfl | rfl | rfl <;> rfl
   have hcons : ∃ r, escB b = 38 :: r := by
    rcases esc_sign b h with rfl | rfl | rfl | rfl
    ·exact ⟨_, rfl⟩
    ·exact ⟨_, rfl⟩
    ·exact ⟨_, rfl⟩
    ·exact ⟨_, rfl⟩
   obtain ⟨r, hr⟩ := hcons
   have he := hent (escL t)
   rw [hr] at he ⊢
   rw [List.cons_append] at he ⊢
   rw [dec_amp, he, if_neg (by rw [List.length_cons]; omega)]
   show (dec (List.drop ((38 :: r).length : Int).toNat (38 :: (r ++ escL t)))).map _ = _
   rw [Int.toNat_natCast, ← List.cons_append, List.drop_left, dec_esc t]
   rfl
  | false =>
   obtain ⟨h1, h2, h3⟩ := esc_same b h
   rw [h1, List.singleton_append, dec_cons _ _ h2, dec_esc t]
   rfl
theorem esc_no_less : ∀ (l : List UInt8) (c : UInt8), c ∈ escL l → ¬ c = 60
 | [], c, h => by cases h
 | b :: t, c, h => by
  rw [escL_cons] at h
  rcases List.mem_append.1 h with h | h
  ·cases hs : signB b with
   | true =>
    rcases esc_sign b hs with rfl | rfl | rfl | rfl
    ·intro e; subst e; exact absurd h (by decide)
    ·intro e; subst e; exact absurd h (by decide)
    ·intro e; subst e; exact absurd h (by decide)
    ·intro e; subst e; exact absurd h (by decide)
   | false =>
    obtain ⟨h1, h2, h3⟩ := esc_same b hs
    rw [h1] at h
    rw [List.mem_singleton.1 h]; exact h3
  ·exact esc_no_less t c h
theorem enc_high (c : Int) (hp : pointB c = true) (h : 128 ≤ c) : ∀ x, x ∈ encL c → 128 ≤ x.toNat := by
 have hr := point_range hp
 unfold encL
 rw [if_pos hp, if_neg (by omega)]
 have b := byteI_nat
 intro x hx
 split at hx
 ·simp only [List.mem_cons, List.not_mem_nil, or_false] at hx
  rcases hx with rfl | rfl
  ·have := byteI_nat (192 + c / 64) (by omega) (by omega); omega
  ·have := byteI_nat (128 + c % 64) (by omega) (by omega); omega
 split at hx
 ·simp only [List.mem_cons, List.not_mem_nil, or_false] at hx
  rcases hx with rfl | rfl | rfl
  ·have := byteI_nat (224 + c / 4096) (by omega) (by omega); omega
  ·have := byteI_nat (128 + c / 64 % 64) (by omega) (by omega); omega
  ·have := byteI_nat (128 + c % 64) (by omega) (by omega); omega
 ·simp only [List.mem_cons, List.not_mem_nil, or_false] at hx
  rcases hx with rfl | rfl | rfl | rfl
  ·have := byteI_nat (240 + c / 262144) (by omega) (by omega); omega
  ·have := byteI_nat (128 + c / 4096 % 64) (by omega) (by omega); omega
  ·have := byteI_nat (128 + c / 64 % 64) (by omega) (by omega); omega
  ·have := byteI_nat (128 + c % 64) (by omega) (by omega); omega
theorem enc_low (b : UInt8) (h : b.toNat < 128) : pointB (b.toNat : Int) = true ∧ encL (b.toNat : Int) = [b] := by
 have hp : pointB (b.toNat : Int) = true := by unfold pointB; simp; omega
 refine ⟨hp, ?_⟩
 unfold encL
 rw [if_pos hp, if_pos (by omega), byteI_eq _ b rfl]
theorem esc_high : ∀ (u t v : List UInt8), (∀ x, x ∈ u → 128 ≤ x.toNat) → escL t = u ++ v → ∃ v', t = u ++ v'
 | [], t, v, _, _ => ⟨t, rfl⟩
 | x :: u, t, v, hu, h => by
  have hx := hu x (List.mem_cons_self ..)
  cases t with
  | nil => rw [escL_nil] at h; cases h
  | cons b t =>
   rw [escL_cons] at h
   cases hs : signB b with
   | true =>
    exfalso
    have hc : ∃ r, escB b = 38 :: r := by
     rcases esc_sign b hs with rfl | rfl | rfl | rfl
     ·exact ⟨_, rfl⟩
     ·exact ⟨_, rfl⟩
     ·exact ⟨_, rfl⟩
     ·exact ⟨_, rfl⟩
    obtain ⟨r, hr⟩ := hc
    rw [hr, List.cons_append, List.cons_append] at h
    injection h with h1 _
    rw [← h1] at hx
    exact absurd hx (by decide)
   | false =>
    rw [(esc_same b hs).1, List.singleton_append, List.cons_append] at h
    injection h with h1 h2
    subst h1
    obtain ⟨v', hv⟩ := esc_high u t v (fun y hy => hu y (List.mem_cons_of_mem _ hy)) h2
    exact ⟨v', by rw [hv]; rfl⟩
theorem escL_high : ∀ (u t : List UInt8), (∀ x, x ∈ u → 128 ≤ x.toNat) → escL (u ++ t) = u ++ escL t
 | [], t, _ => rfl
 | x :: u, t, hu => by
  have hx := hu x (List.mem_cons_self ..)
  have hs : signB x = false := by
   cases h : signB x with
   | false => rfl
   | true => rcases esc_sign x h with rfl | rfl | rfl | rfl <;> exact absurd hx (by decide)
  rw [List.cons_append, escL_cons, (esc_same x hs).1, escL_high u t (fun y hy => hu y (List.mem_cons_of_mem _ hy))]
  rfl
theorem valid_bad (a : UInt8) (t : List UInt8) (h : (decL (a :: t)).2 = 0) : validL (a :: t) = false := by
 rw [valid_cons, h]; rfl
theorem valid_esc (n : Nat) : ∀ l : List UInt8, l.length ≤ n → validL (escL l) = validL l := by
 induction n with
 | zero =>
  intro l h
  have : l = [] := List.eq_nil_of_length_eq_zero (by omega)
  rw [this]; rfl
 | succ n ih =>
  intro l hl
  cases l with
  | nil => rfl
  | cons a t =>
   rw [List.length_cons] at hl
   by_cases hlow : a.toNat < 128
   ·obtain ⟨hp, he⟩ := enc_low a hlow
    have h1 : validL (a :: t) = (allowedB (a.toNat : Int) && validL t) := by
     have := valid_enc _ hp t
     rw [he] at this
     exact this
    rw [h1, escL_cons]
    cases hs : signB a with
    | true =>
     have hv : validL (escB a) = true := by
      rcases esc_sign a hs with rfl | rfl | rfl | rfl <;> decide
     have ha : allowedB (a.toNat : Int) = true := by
      rcases esc_sign a hs with rfl | rfl | rfl | rfl <;> decide
     rw [valid_append _ _ hv, ha, ih t (by omega)]; rfl
    | false =>
     rw [(esc_same a hs).1]
     have := valid_enc _ hp (escL t)
     rw [he] at this
     rw [this, ih t (by omega)]
   ·have hs : signB a = false := by
     cases h : signB a with
     | false => rfl
     | true => rcases esc_sign a h with rfl | rfl | rfl | rfl <;> exact absurd (by decide) hlow
    have hE : escL (a :: t) = a :: escL t := by rw [escL_cons, (esc_same a hs).1]; rfl
    by_cases h0 : (decL (a :: t)).2 = 0
    ·rw [valid_bad a t h0, hE]
     apply valid_bad
     apply Classical.byContradiction
     intro h1
     obtain ⟨hp, hsz, u, hu⟩ := enc_dec (a :: escL t) h1
     obtain ⟨c, hc⟩ : ∃ c, (decL (a :: escL t)).1 = c := ⟨_, rfl⟩
     rw [hc] at hp hsz hu
     have hge : 128 ≤ c := by
      apply Classical.byContradiction
      intro hlt
      have hr := point_range hp
      have : encL c = [byteI c] := by unfold encL; rw [if_pos hp, if_pos (by omega)]
      rw [this] at hu
      injection hu with hu _
      have := byteI_nat c (by omega) (by omega)
      rw [← hu] at this; omega
     have hh := enc_high c hp hge
     obtain ⟨v', hv⟩ := esc_high (encL c) (a :: t) u hh (by rw [hE]; exact hu)
     rw [hv, dec_enc c hp v'] at h0
     have := sizeN_range c
     simp only at h0
     omega
    ·obtain ⟨hp, hsz, u, hu⟩ := enc_dec (a :: t) h0
     obtain ⟨c, hc⟩ : ∃ c, (decL (a :: t)).1 = c := ⟨_, rfl⟩
     rw [hc] at hp hsz hu
     have hlen := enc_len c hp
     have hr := sizeN_range c
     have hge : 128 ≤ c := by
      apply Classical.byContradiction
      intro hlt
      have hr := point_range hp
      have : encL c = [byteI c] := by unfold encL; rw [if_pos hp, if_pos (by omega)]
      rw [this] at hu
      injection hu with hu _
      have := byteI_nat c (by omega) (by omega)
      rw [← hu] at this; omega
     have hh := enc_high c hp hge
     have hul := congrArg List.length hu
     rw [List.length_append, List.length_cons] at hul
     rw [hu, escL_high _ _ hh, valid_enc _ hp, valid_enc _ hp, ih u (by omega)]
theorem index_out (l : List UInt8) (h : ∀ c, c ∈ l → ¬ c = 60) : Lib.index l [60] = -1 := by
 apply Lib.index_none
 intro j _
 unfold Lib.occAt
 cases hd : l.drop j with
 | nil => rfl
 | cons c t =>
  have hm : c ∈ l := List.mem_of_mem_drop (by rw [hd]; exact List.mem_cons_self ..)
  have := h c hm
  simp only [List.isPrefixOf, Bool.and_eq_false_iff, beq_eq_false_iff_ne, ne_eq]
  exact Or.inl (fun e => this e.symm)
theorem lexO_one (d : ByteArray) (t : Tok) (h : stepP d 0 = some ([t], (d.size : Int))) (hd : 0 < d.size) : lexO d = some [t] := by
 unfold lexO
 obtain ⟨n, hn⟩ : ∃ n, d.size = n + 1 := ⟨d.size - 1, by omega⟩
 rw [show d.size + 1 = n + 1 + 1 from by omega, lexF, if_pos (by omega), h]
 simp only [List.nil_append]
 rw [lexF, if_neg (by omega)]
theorem stands_first (d : ByteArray) (c : UInt8) (t s : List UInt8) (h : d.data.toList = c :: t) (hc : ¬ c = 60) : standsB d 0 ⟨(60 :: s).toArray⟩ = false := by
 unfold standsB Lib.hasPrefix
 rw [show (0 : Int).toNat = 0 from rfl, List.drop_zero, h]
 simp only [List.isPrefixOf, Bool.and_eq_false_iff, beq_eq_false_iff_ne, ne_eq]
 exact Or.inl (fun e => hc e.symm)
end Go.Proofs.YtlhhhlimjajnlaaGreat.P12
end
