/- Parts of the proof of canonSame_holds, kept and merged by a program of mine (wip/tools/slim.py) out of my texts: ParN -/
import Derived.Test.YtlhhhlimjajnlaaGreatSPs32
section
set_option linter.unusedVariables false
set_option linter.unusedSimpArgs false
namespace Go.Proofs.YtlhhhlimjajnlaaGreat.X
open Go Go.RowKit Go.Proofs.YtlhhhlimjajnlaaGreat Go.Proofs.YtlhhhlimjajnlaaGreat.Q Go.Proofs.YtlhhhlimjajnlaaGreat.P11 Go.Proofs.YtlhhhlimjajnlaaGreat.P12 Go.Proofs.YtlhhhlimjajnlaaGreatW.PrintWords
theorem part_size (d : ByteArray) (i j : Int) : (partB d i j).size ≤ d.size := by
  unfold partB
  rw [Lib.size_eq, Lib.size_eq, Lib.extract_data, List.length_take, List.length_drop]; omega
theorem none_size (d : ByteArray) : (⟨#[]⟩ : ByteArray).size ≤ d.size := Nat.zero_le _
def Nms (d : ByteArray) (l : List Tok) : Prop := ∀ t, t ∈ l → t.f3.size ≤ d.size
theorem nms_app {d : ByteArray} {l r : List Tok} (h1 : Nms d l) (h2 : Nms d r) : Nms d (l ++ r) := fun t ht => by
  rcases List.mem_append.1 ht with h | h
  · exact h1 t h
  · exact h2 t h
theorem nms_one {d : ByteArray} {t : Tok} (h : t.f3.size ≤ d.size) : Nms d [t] := fun u hu => by rw [List.mem_singleton.1 hu]; exact h
theorem attr_nms (d : ByteArray) (a : Int) (new : List Tok) (a' : Int) (h : attrP d a = some (new, a')) : Nms d new := by
  unfold attrP at h
  simp only at h
  repeat' split at h
  all_goals first
    | (injection h with h; injection h with h2 h3; rw [← h2]; exact nms_one (part_size d _ _); done)
    | (exact absurd h (by simp))
theorem attrs_nms (d : ByteArray) : ∀ (n : Nat) (a : Int) (acc r : List Tok) (a' : Int), Nms d acc → attrsF d n a acc = some (r, a') → Nms d r := by
  intro n
  induction n with
  | zero => intro a acc r a' _ h; cases h
  | succ n ih =>
    intro a acc r a' hacc h
    unfold attrsF at h
    split at h
    · injection h with h; injection h with h2 h3
      rw [← h2]; exact nms_app hacc (nms_one (none_size d))
    split at h
    · injection h with h; injection h with h2 h3
      rw [← h2]; exact nms_app hacc (nms_one (none_size d))
    cases hA : attrP d a with
    | none => rw [hA] at h; cases h
    | some v =>
      obtain ⟨new, p⟩ := v
      rw [hA] at h
      exact ih p (acc ++ new) r a' (nms_app hacc (attr_nms d a new p hA)) h
theorem step_nms (d : ByteArray) (a : Int) (new : List Tok) (a' : Int) (h : stepP d a = some (new, a')) : Nms d new := by
  unfold stepP at h
  split at h
  · unfold commentP at h
    simp only at h
    split at h
    · cases h
    split at h
    · injection h with h; injection h with h2 h3
      rw [← h2]; exact nms_one (none_size d)
    · cases h
  split at h
  · unfold plainP at h
    simp only at h
    split at h
    · injection h with h; injection h with h2 h3
      rw [← h2]; exact nms_one (none_size d)
    · cases h
  split at h
  · unfold closingP at h
    simp only at h
    split at h
    · cases h
    split at h
    · injection h with h; injection h with h2 h3
      rw [← h2]; exact nms_one (part_size d _ _)
    · cases h
  split at h
  · unfold tagP at h
    simp only at h
    split at h
    · cases h
    exact attrs_nms d _ _ _ _ _ (nms_one (part_size d _ _)) h
  · unfold textP at h
    simp only at h
    cases hd : dec (Lib.cut (d.data.toList.drop a.toNat) [60]).1 with
    | none => rw [hd] at h; cases h
    | some v =>
      rw [hd] at h
      injection h with h; injection h with h2 h3
      rw [← h2]; exact nms_one (none_size d)
theorem lexF_nms (s : ByteArray) (n : Nat) : ∀ (a : Int) (acc l : List Tok), Nms s acc → lexF s n a acc = some l → Nms s l := by
  induction n with
  | zero => intro a acc l _ h; cases h
  | succ n ih =>
    intro a acc l hv h
    unfold lexF at h
    split at h
    · cases hS : stepP s a with
      | none => rw [hS] at h; cases h
      | some v =>
        obtain ⟨new, a'⟩ := v
        rw [hS] at h
        exact ih a' (acc ++ new) l (nms_app hv (step_nms s a new a' hS)) h
    · obtain rfl := Option.some.inj h
      exact hv
theorem lexV_nms (s : ByteArray) : Nms s (lexV s).1 := by
  unfold lexV
  split
  · intro t ht; cases ht
  split
  · intro t ht; cases ht
  · cases h : lexO s with
    | none => intro t ht; cases ht
    | some l => exact lexF_nms s _ 0 [] l (fun t ht => by cases ht) h
def Sht (m : Nat) (l : List ByteArray) : Prop := ∀ s, s ∈ l → s.size ≤ m
theorem sht_app {m : Nat} {l : List ByteArray} {s : ByteArray} (h : Sht m l) (hs : s.size ≤ m) : Sht m (l ++ [s]) := fun u hu => by
  rcases List.mem_append.1 hu with h' | h'
  · exact h u h'
  · rw [List.mem_singleton.1 h']; exact hs
theorem sht_flush {m : Nat} {p : PS} (h : Sht m p.s) : Sht m (flushP p).s := by
  unfold flushP
  split
  · exact h
  split
  · exact h
  · exact sht_app h (Nat.zero_le _)
theorem sht_end {m : Nat} {p : PS} (h : Sht m p.s) (name : ByteArray) : Sht m (endP p name).s := by
  unfold endP
  simp only
  split
  · exact sht_flush h
  · exact sht_flush h
theorem sht_step {m : Nat} {p : PS} (h : Sht m p.s) (t : Tok) (ht : t.f3.size ≤ m) : Sht m (stepT p t).s := by
  unfold stepT
  repeat' split
  · exact h
  · exact h
  · exact sht_app (sht_flush h) ht
  · exact sht_app h ht
  · exact sht_end h _
  · exact sht_end h _
  · exact h
theorem sht_run {m : Nat} : ∀ (l : List Tok) (p : PS), Sht m p.s → (∀ t, t ∈ l → t.f3.size ≤ m) → Sht m (l.foldl stepT p).s
  | [], p, h, _ => h
  | t :: l, p, h, hl => sht_run l (stepT p t) (sht_step h t (hl t (List.mem_cons_self ..))) fun u hu => hl u (List.mem_cons_of_mem _ hu)
theorem seg_len (L : List UInt8) : ∀ (r : List Tok) (a b : Int) (x y : Bool), Seg L a x r b y → (r.length : Int) ≤ b - a := by
  intro r
  induction r with
  | nil => intro a b x y h; obtain ⟨rfl, _⟩ := h; simp
  | cons u r ih =>
    intro a b x y h
    obtain ⟨h1, h2, h3, h4, h5, h6⟩ := h
    have := ih _ _ _ _ h6
    rw [List.length_cons]; omega
theorem lexV_small (s : ByteArray) (h : (lexV s).2 = 0) : s.size ≤ 65536 := by
  unfold lexV at h
  split at h
  · exact absurd h (by decide)
  · omega
end Go.Proofs.YtlhhhlimjajnlaaGreat.X
end
