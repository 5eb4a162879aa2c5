/- Parts of the proof of canonSpoilt_holds, kept and merged by a program of mine (wip/tools/slim.py) out of my texts: P14z -/
import Derived.Test.YtlhhhlimjajnlaaGreatSSp9
import Derived.Test.YtlhhhlimjajnlaaGreatSSp16
import Derived.Test.YtlhhhlimjajnlaaGreatSSp27
import Derived.Test.YtlhhhlimjajnlaaGreatSSp33
import Derived.Test.YtlhhhlimjajnlaaGreatSSp26
import Derived.Test.YtlhhhlimjajnlaaGreatSSp32
section
set_option linter.unusedVariables false
set_option linter.unusedSimpArgs false
namespace Go.Proofs.YtlhhhlimjajnlaaGreat.P14
open Go Go.RowKit Go.Proofs.YtlhhhlimjajnlaaGreat Go.Proofs.YtlhhhlimjajnlaaGreat.Q Go.Proofs.YtlhhhlimjajnlaaGreat.P11 Go.Proofs.YtlhhhlimjajnlaaGreatW.PrintWords Go.Proofs.YtlhhhlimjajnlaaGreat.X Go.Proofs.YtlhhhlimjajnlaaGreat.Ck Go.Proofs.YtlhhhlimjajnlaaGreat.P12 Go.Proofs.YtlhhhlimjajnlaaGreat.P13 Go.Proofs.YtlhhhlimjajnlaaGreat.R13
theorem body_two (b : List UInt8) (h : ¬ bodyL b = []) : 2 ≤ b.length := by
 rcases b with _ | ⟨c, _ | ⟨d, t⟩⟩
 ·exact absurd (by rfl) h
 ·exfalso
  apply h
  unfold bodyL namedL numdL
  by_cases hc : c = 35
  ·subst hc; rfl
  ·rw [if_neg (by simp [List.isPrefixOf]), if_neg (by simp [List.isPrefixOf]; exact fun e => hc e.symm)]
   simp
 ·simp
theorem ent_two (l : List UInt8) : ((entL l).1.length : Int) ≤ (entL l).2 := by
 cases l with
 | nil => decide
 | cons a t =>
  rw [entL_at]
  by_cases h : a = 38
  ·rw [if_pos h]
   cases hu : upTo 59 t with
   | none => simp
   | some b =>
    by_cases hn : bodyL b = []
    ·simp [hn]
    ·have := body_two b hn
     have hb := bodyL_le b
     simp only [hn, if_false]
     omega
  ·rw [if_neg h]; simp
theorem dec_short : ∀ (n : Nat) (l v : List UInt8), decF n l = some v → v.length ≤ l.length
 | 0, [], v, h => by obtain rfl := Option.some.inj h; simp
 | n + 1, [], v, h => by obtain rfl := Option.some.inj h; simp
 | 0, c :: t, v, h => by cases h
 | n + 1, c :: t, v, h => by
  unfold decF at h
  by_cases hc : c = 38
  ·rw [if_pos hc] at h
   by_cases he : (entL (c :: t)).2 = 0
   ·rw [if_pos he] at h; cases h
   ·rw [if_neg he] at h
    cases hr : decF n ((c :: t).drop (entL (c :: t)).2.toNat) with
    | none => rw [hr] at h; cases h
    | some u =>
     rw [hr] at h
     have h := Option.some.inj h
     have ih := dec_short n _ u hr
     have ho := entL_ok (c :: t)
     have hs := ent_two (c :: t)
     rw [List.length_drop] at ih
     rw [← h, List.length_append]
     omega
  ·rw [if_neg hc] at h
   cases hr : decF n t with
   | none => rw [hr] at h; cases h
   | some u =>
    rw [hr] at h
    have h := Option.some.inj h
    have ih := dec_short n t u hr
    rw [← h, List.length_cons, List.length_cons]
    omega
def cT (t : Tok) : Nat := if t.f0 = 1 then 2 * t.f3.size + 8 else if t.f0 = 2 then 2 * t.f3.size + 6 * t.f4.size + 8 else if t.f0 = 6 then 14 * t.f4.size else 0
def Cost (l : List Tok) : Prop := ∀ t, t ∈ l → (cT t : Int) ≤ 14 * (t.f2 - t.f1) ∨ cT t = 0
theorem cost_no {t : Tok} (h : t.f0 = 3 ∨ t.f0 = 4 ∨ t.f0 = 5 ∨ t.f0 = 7) : cT t = 0 := by
 unfold cT
 rw [if_neg (by omega), if_neg (by omega), if_neg (by omega)]
theorem cost_app {l r : List Tok} (h1 : Cost l) (h2 : Cost r) : Cost (l ++ r) := fun t ht => (List.mem_append.1 ht).elim (h1 t) (h2 t)
theorem cost_one {t : Tok} (h : (cT t : Int) ≤ 14 * (t.f2 - t.f1) ∨ cT t = 0) : Cost [t] := fun u hu => by rw [List.mem_singleton.1 hu]; exact h
theorem part_len (d : ByteArray) (i j : Int) (h0 : 0 ≤ i) (hij : i ≤ j) : ((partB d i j).size : Int) ≤ j - i := by
 unfold partB
 rw [Lib.size_eq, Lib.extract_data, List.length_take]; omega
theorem mk_len (l : List UInt8) : (⟨l.toArray⟩ : ByteArray).size = l.length := by simp [ByteArray.size]
theorem attr_cost (d : ByteArray) (a : Int) (h0 : 0 ≤ a) (h1 : a ≤ (d.size : Int)) (new : List Tok) (a' : Int) (h : attrP d a = some (new, a')) : Cost new := by
 have hsz : d.data.toList.length = d.size := (Lib.size_eq d).symm
 unfold attrP at h
 obtain ⟨F, hF⟩ : ∃ F, skipP d.data.toList a = F := ⟨_, rfl⟩
 obtain ⟨E, hE⟩ : ∃ E, nameEndP d.data.toList F = E := ⟨_, rfl⟩
 obtain ⟨Q, hQ⟩ : ∃ Q, skipP d.data.toList E = Q := ⟨_, rfl⟩
 obtain ⟨O, hO⟩ : ∃ O, skipP d.data.toList (Q + 1) = O := ⟨_, rfl⟩
 simp only [hF, hE, hQ, hO] at h
 have hF1 := skipP_in d.data.toList a (by omega) (by omega)
 rw [hF] at hF1
 have hE1 := nameEndP_in d.data.toList F (by omega) (by omega)
 rw [hE] at hE1
 have hQ1 := skipP_in d.data.toList E (by omega) (by omega)
 rw [hQ] at hQ1
 by_cases c1 : F = a
 ·rw [if_pos c1] at h; cases h
 rw [if_neg c1] at h
 by_cases c2 : E = F
 ·rw [if_pos c2] at h; cases h
 rw [if_neg c2] at h
 by_cases c3 : standsB d Q ⟨#[61]⟩ = false
 ·rw [if_pos c3] at h; cases h
 rw [if_neg c3] at h
 have hr1 := stands_room d Q 61 (by omega) (by simpa using c3)
 have hO1 := skipP_in d.data.toList (Q + 1) (by omega) (by omega)
 rw [hO] at hO1
 by_cases c4 : standsB d O ⟨#[34]⟩ = false ∧ standsB d O ⟨#[39]⟩ = false
 ·rw [if_pos c4] at h; cases h
 rw [if_neg c4] at h
 obtain ⟨c, hc⟩ : ∃ c, Lib.cut (d.data.toList.drop (O + 1).toNat) (partB d O (O + 1)).data.toList = c := ⟨_, rfl⟩
 rw [hc] at h
 by_cases c5 : c.2.2 = false
 ·rw [if_pos c5] at h; cases h
 rw [if_neg c5] at h
 by_cases c6 : 0 ≤ Lib.indexByte c.1 60
 ·rw [if_pos c6] at h; cases h
 rw [if_neg c6] at h
 cases hd : dec c.1 with
 | none => rw [hd] at h; cases h
 | some v =>
  rw [hd] at h
  injection h with h
  injection h with h2 h3
  subst h2
  refine cost_one (.inl ?_)
  have hv := dec_short _ _ _ hd
  have hp := part_len d F E (by omega) (by omega)
  have hm := mk_len v
  unfold cT
  rw [if_neg (by show ¬ (2 : Int) = 1; omega), if_pos (by rfl)]
  show ((2 * (partB d F E).size + 6 * (⟨v.toArray⟩ : ByteArray).size + 8 : Nat) : Int) ≤ 14 * (O + (c.1.length : Int) + 2 - F)
  omega
theorem attrs_cost (d : ByteArray) : ∀ (n : Nat) (a : Int) (acc r : List Tok) (a' : Int), 0 ≤ a → a ≤ (d.size : Int) → Cost acc → attrsF d n a acc = some (r, a') → Cost r := by
 intro n
 induction n with
 | zero => intro a acc r a' _ _ _ h; cases h
 | succ n ih =>
  intro a acc r a' h0 h1 hc h
  unfold attrsF at h
  split at h
  ·injection h with h; injection h with h2 h3
   subst h2
   exact cost_app hc (cost_one (.inr (cost_no (.inl rfl))))
  split at h
  ·injection h with h; injection h with h2 h3
   subst h2
   exact cost_app hc (cost_one (.inr (cost_no (.inr (.inl rfl)))))
  cases hA : attrP d a with
  | none => rw [hA] at h; cases h
  | some v =>
   obtain ⟨new, p⟩ := v
   rw [hA] at h
   have hroom := attr_room d a h0 h1 new p hA
   exact ih p (acc ++ new) r a' (by omega) hroom.2.1 (cost_app hc (attr_cost d a h0 h1 new p hA)) h
theorem step_cost (d : ByteArray) (a : Int) (h0 : 0 ≤ a) (h1 : a < (d.size : Int)) (new : List Tok) (a' : Int) (h : stepP d a = some (new, a')) : Cost new := by
 have hsz : d.data.toList.length = d.size := (Lib.size_eq d).symm
 unfold stepP at h
 split at h
 ·unfold commentP at h
  simp only at h
  split at h
  ·cases h
  split at h
  ·injection h with h; injection h with h2 h3
   subst h2
   exact cost_one (.inr (cost_no (.inr (.inr (.inr rfl)))))
  ·cases h
 split at h
 ·unfold plainP at h
  simp only at h
  split at h
  ·injection h with h; injection h with h2 h3
   subst h2
   refine cost_one (.inl ?_)
   unfold cT
   rw [if_neg (by show ¬ (6 : Int) = 1; omega), if_neg (by show ¬ (6 : Int) = 2; omega), if_pos (by rfl), mk_len]
   dsimp only
   omega
  ·cases h
 split at h
 ·unfold closingP at h
  simp only at h
  split at h
  ·cases h
  split at h
  ·injection h with h; injection h with h2 h3
   subst h2
   exact cost_one (.inr (cost_no (.inr (.inr (.inl rfl)))))
  ·cases h
 split at h
 ·rename_i c4
  have hr := stands_room2 d a _ h0 (by decide) c4
  rw [show ((⟨#[60]⟩ : ByteArray).size : Int) = 1 from rfl] at hr
  unfold tagP at h
  simp only at h
  have hE1 := nameEndP_in d.data.toList (a + 1) (by omega) (by omega)
  obtain ⟨E, hE⟩ : ∃ E, nameEndP d.data.toList (a + 1) = E := ⟨_, rfl⟩
  rw [hE] at hE1 h
  split at h
  ·cases h
  refine attrs_cost d _ E _ _ _ (by omega) (by omega) (cost_one (.inl ?_)) h
  have hp := part_len d (a + 1) E (by omega) (by omega)
  unfold cT
  rw [if_pos (by rfl)]
  show ((2 * (partB d (a + 1) E).size + 8 : Nat) : Int) ≤ 14 * (E - a)
  omega
 ·unfold textP at h
  simp only at h
  cases hd : dec (Lib.cut (d.data.toList.drop a.toNat) [60]).1 with
  | none => rw [hd] at h; cases h
  | some v =>
   rw [hd] at h
   injection h with h; injection h with h2 h3
   subst h2
   refine cost_one (.inl ?_)
   have hv := dec_short _ _ _ hd
   unfold cT
   rw [if_neg (by show ¬ (6 : Int) = 1; omega), if_neg (by show ¬ (6 : Int) = 2; omega), if_pos (by rfl), mk_len]
   dsimp only
   omega
theorem lexF_cost (s : ByteArray) (n : Nat) : ∀ (a : Int) (acc l : List Tok), 0 ≤ a → Cost acc → lexF s n a acc = some l → Cost l := by
 induction n with
 | zero => intro a acc l _ _ h; cases h
 | succ n ih =>
  intro a acc l h0 hv h
  unfold lexF at h
  split at h
  ·rename_i hlt
   cases hS : stepP s a with
   | none => rw [hS] at h; cases h
   | some v =>
    obtain ⟨new, a'⟩ := v
    rw [hS] at h
    have hroom := step_room s a h0 hlt new a' hS
    exact ih a' (acc ++ new) l (by omega) (cost_app hv (step_cost s a h0 hlt new a' hS)) h
  ·obtain rfl := Option.some.inj h
   exact hv
theorem lexV_cost (s : ByteArray) : Cost (lexV s).1 := by
 unfold lexV
 split
 ·exact fun t ht => by cases ht
 ·split
  ·exact fun t ht => by cases ht
  ·cases h : lexO s with
   | none => exact fun t ht => by cases ht
   | some l => exact lexF_cost s _ 0 [] l (by omega) (fun t ht => by cases ht) h
def sumC : List Tok → Nat
 | [] => 0
 | t :: r => cT t + sumC r
theorem seg_cost (L : List UInt8) : ∀ (r : List Tok) (a b : Int) (x y : Bool), Seg L a x r b y → Cost r → (sumC r : Int) ≤ 14 * (b - a)
 | [], a, b, x, y, h, _ => by obtain ⟨rfl, _⟩ := h; show ((0 : Nat) : Int) ≤ _; omega
 | t :: r, a, b, x, y, h, hv => by
  obtain ⟨h1, h2, h3, h4, h5, h6⟩ := h
  have := seg_cost L r _ _ _ _ h6 fun u hu => hv u (List.mem_cons_of_mem _ hu)
  have ht := hv t (List.mem_cons_self ..)
  show ((cT t + sumC r : Nat) : Int) ≤ _
  omega
def sumS : List ByteArray → Nat
 | [] => 0
 | s :: r => 2 * s.size + sumS r
def sumN : List Nod → Nat
 | [] => 0
 | x :: r => 6 * x.f3.size + 8 + sumN r
theorem sumS_app : ∀ (a b : List ByteArray), sumS (a ++ b) = sumS a + sumS b
 | [], b => by simp [sumS]
 | s :: a, b => by show 2 * s.size + sumS (a ++ b) = _; rw [sumS_app a b]; show _ = 2 * s.size + sumS a + sumS b; omega
theorem sumN_app : ∀ (a b : List Nod), sumN (a ++ b) = sumN a + sumN b
 | [], b => by simp [sumN]
 | s :: a, b => by show 6 * s.f3.size + 8 + sumN (a ++ b) = _; rw [sumN_app a b]; show _ = 6 * s.f3.size + 8 + sumN a + sumN b; omega
def Phi (p : PS) : Nat := sumS p.s + sumN p.n + 14 * p.x.size
theorem phi_put (p : PS) (k nm : Int) (v name : ByteArray) : Phi (putP p k nm v name) = Phi p + 2 * name.size + 6 * v.size + 8 := by
 unfold Phi putP
 simp only [sumS_app, sumN_app, sumS, sumN]
 omega
theorem phi_flush (p : PS) : Phi (flushP p) ≤ Phi p := by
 unfold flushP
 split
 ·unfold Phi; show _ + 14 * (0 : Nat) ≤ _; simp only; omega
 rename_i h
 split
 ·unfold Phi; show _ + 14 * (0 : Nat) ≤ _; simp only; omega
 ·rw [phi_put]
  have : 1 ≤ p.x.size := by
   rw [Lib.size_eq]
   cases e : p.x.data.toList with
   | nil => exact absurd e h
   | cons a b => simp
  unfold Phi
  show sumS p.s + sumN p.n + 14 * (0 : Nat) + 2 * (0 : Nat) + 6 * p.x.size + 8 ≤ _
  omega
theorem phi_end (p : PS) (name : ByteArray) : Phi (endP p name) ≤ Phi p := by
 unfold endP
 simp only
 split
 ·exact phi_flush p
 ·exact phi_flush p
theorem phi_step (p : PS) (t : Tok) : Phi (X.stepT p t) ≤ Phi p + cT t := by
 unfold X.stepT cT
 by_cases c7 : t.f0 = 7
 ·rw [if_pos c7]; omega
 rw [if_neg c7]
 by_cases c6 : t.f0 = 6
 ·rw [if_pos c6, if_neg (by omega), if_neg (by omega), if_pos c6]
  unfold Phi
  simp only [ByteArray.size_append]
  omega
 rw [if_neg c6]
 by_cases c1 : t.f0 = 1
 ·rw [if_pos c1, if_pos c1]
  unfold beginP
  simp only
  have h := phi_flush p
  obtain ⟨q, hq⟩ : ∃ q, flushP p = q := ⟨_, rfl⟩
  rw [hq] at h ⊢
  have := phi_put { q with wr := q.wr || (decide (topP q.o < 0) && decide (0 < q.n.length)), dp := q.dp || decide ((64 : Int) < q.o.length) } 1 0 ⟨#[]⟩ t.f3
  have e : Phi { q with wr := q.wr || (decide (topP q.o < 0) && decide (0 < q.n.length)), dp := q.dp || decide ((64 : Int) < q.o.length) } = Phi q := rfl
  rw [e] at this
  show Phi (putP _ 1 0 ⟨#[]⟩ t.f3) ≤ _
  rw [this]
  show Phi q + 2 * t.f3.size + 6 * (0 : Nat) + 8 ≤ _
  omega
 rw [if_neg c1, if_neg c1]
 by_cases c2 : t.f0 = 2
 ·rw [if_pos c2, if_pos c2]
  unfold attrS
  rw [phi_put]
  show Phi p + 2 * t.f3.size + 6 * t.f4.size + 8 ≤ _
  omega
 rw [if_neg c2, if_neg c2, if_neg c6]
 split
 ·exact phi_end p _
 split
 ·exact phi_end p _
 ·exact Nat.le_refl _
theorem phi_run : ∀ (l : List Tok) (p : PS), Phi (l.foldl X.stepT p) ≤ Phi p + sumC l
 | [], p => Nat.le_refl _
 | t :: r, p => by
  have h1 := phi_run r (X.stepT p t)
  have h2 := phi_step p t
  show Phi (r.foldl X.stepT (X.stepT p t)) ≤ Phi p + (cT t + sumC r)
  omega
end Go.Proofs.YtlhhhlimjajnlaaGreat.P14
end
