/- Parts of the proof of canonTrees_holds, kept and merged by a program of mine (wip/tools/slim.py) out of my texts: ParN P14d P14g -/
import Derived.Test.YtlhhhlimjajnlaaGreatSPt33
import Derived.Test.YtlhhhlimjajnlaaGreatSPt27
import Derived.Test.YtlhhhlimjajnlaaGreatSPt9
section
set_option linter.unusedVariables false
set_option linter.unusedSimpArgs false
namespace Go.Proofs.YtlhhhlimjajnlaaGreat.X
open Go Go.RowKit Go.Proofs.YtlhhhlimjajnlaaGreat Go.Proofs.YtlhhhlimjajnlaaGreat.Q Go.Proofs.YtlhhhlimjajnlaaGreat.P11 Go.Proofs.YtlhhhlimjajnlaaGreat.P12 Go.Proofs.YtlhhhlimjajnlaaGreatW.PrintWords
theorem part_size (d : ByteArray) (i j : Int) : (partB d i j).size ≤ d.size := by
 unfold partB
 rw [Lib.size_eq, Lib.size_eq, Lib.extract_data, List.length_take, List.length_drop]; omega
theorem none_size (d : ByteArray) : (⟨#[]⟩ : ByteArray).size ≤ d.size := Nat.zero_le _
def Nms (d : ByteArray) (l : List Tok) : Prop := ∀ t, t ∈ l → t.f3.size ≤ d.size
theorem nms_app {d : ByteArray} {l r : List Tok} (h1 : Nms d l) (h2 : Nms d r) : Nms d (l ++ r) := fun t ht => by
 rcases List.mem_append.1 ht with h | h
 ·exact h1 t h
 ·exact h2 t h
theorem nms_one {d : ByteArray} {t : Tok} (h : t.f3.size ≤ d.size) : Nms d [t] := fun u hu => by rw [List.mem_singleton.1 hu]; exact h
theorem attr_nms (d : ByteArray) (a : Int) (new : List Tok) (a' : Int) (h : attrP d a = some (new, a')) : Nms d new := by
 unfold attrP at h
 simp only at h
 repeat' split at h
 all_goals first
  | (injection h with h; injection h with h2 h3; rw [← h2]; exact nms_one (part_size d _ _); done)
  | (exact absurd h (by simp))
theorem attrs_nms (d : ByteArray) : ∀ (n : Nat) (a : Int) (acc r : List Tok) (a' : Int), Nms d acc → attrsF d n a acc = some (r, a') → Nms d r := by
 intro n
 induction n with
 | zero => intro a acc r a' _ h; cases h
 | succ n ih =>
  intro a acc r a' hacc h
  unfold attrsF at h
  split at h
  ·injection h with h; injection h with h2 h3
   rw [← h2]; exact nms_app hacc (nms_one (none_size d))
  split at h
  ·injection h with h; injection h with h2 h3
   rw [← h2]; exact nms_app hacc (nms_one (none_size d))
  cases hA : attrP d a with
  | none => rw [hA] at h; cases h
  | some v =>
   obtain ⟨new, p⟩ := v
   rw [hA] at h
   exact ih p (acc ++ new) r a' (nms_app hacc (attr_nms d a new p hA)) h
theorem step_nms (d : ByteArray) (a : Int) (new : List Tok) (a' : Int) (h : stepP d a = some (new, a')) : Nms d new := by
 unfold stepP at h
 split at h
 ·unfold commentP at h
  simp only at h
  split at h
  ·cases h
  split at h
  ·injection h with h; injection h with h2 h3
   rw [← h2]; exact nms_one (none_size d)
  ·cases h
 split at h
 ·unfold plainP at h
  simp only at h
  split at h
  ·injection h with h; injection h with h2 h3
   rw [← h2]; exact nms_one (none_size d)
  ·cases h
 split at h
 ·unfold closingP at h
  simp only at h
  split at h
  ·cases h
  split at h
  ·injection h with h; injection h with h2 h3
   rw [← h2]; exact nms_one (part_size d _ _)
  ·cases h
 split at h
 ·unfold tagP at h
  simp only at h
  split at h
  ·cases h
  exact attrs_nms d _ _ _ _ _ (nms_one (part_size d _ _)) h
 ·unfold textP at h
  simp only at h
  cases hd : dec (Lib.cut (d.data.toList.drop a.toNat) [60]).1 with
  | none => rw [hd] at h; cases h
  | some v =>
   rw [hd] at h
   injection h with h; injection h with h2 h3
   rw [← h2]; exact nms_one (none_size d)
theorem lexF_nms (s : ByteArray) (n : Nat) : ∀ (a : Int) (acc l : List Tok), Nms s acc → lexF s n a acc = some l → Nms s l := by
 induction n with
 | zero => intro a acc l _ h; cases h
 | succ n ih =>
  intro a acc l hv h
  unfold lexF at h
  split at h
  ·cases hS : stepP s a with
   | none => rw [hS] at h; cases h
   | some v =>
    obtain ⟨new, a'⟩ := v
    rw [hS] at h
    exact ih a' (acc ++ new) l (nms_app hv (step_nms s a new a' hS)) h
  ·obtain rfl := Option.some.inj h
   exact hv
theorem lexV_nms (s : ByteArray) : Nms s (lexV s).1 := by
 unfold lexV
 split
 ·intro t ht; cases ht
 split
 ·intro t ht; cases ht
 ·cases h : lexO s with
  | none => intro t ht; cases ht
  | some l => exact lexF_nms s _ 0 [] l (fun t ht => by cases ht) h
def Sht (m : Nat) (l : List ByteArray) : Prop := ∀ s, s ∈ l → s.size ≤ m
theorem sht_app {m : Nat} {l : List ByteArray} {s : ByteArray} (h : Sht m l) (hs : s.size ≤ m) : Sht m (l ++ [s]) := fun u hu => by
 rcases List.mem_append.1 hu with h' | h'
 ·exact h u h'
 ·rw [List.mem_singleton.1 h']; exact hs
theorem sht_flush {m : Nat} {p : PS} (h : Sht m p.s) : Sht m (flushP p).s := by
 unfold flushP
 split
 ·exact h
 split
 ·exact h
 ·exact sht_app h (Nat.zero_le _)
theorem sht_end {m : Nat} {p : PS} (h : Sht m p.s) (name : ByteArray) : Sht m (endP p name).s := by
 unfold endP
 simp only
 split
 ·exact sht_flush h
 ·exact sht_flush h
theorem sht_step {m : Nat} {p : PS} (h : Sht m p.s) (t : Tok) (ht : t.f3.size ≤ m) : Sht m (stepT p t).s := by
 unfold stepT
 repeat' split
 ·exact h
 ·exact h
 ·exact sht_app (sht_flush h) ht
 ·exact sht_app h ht
 ·exact sht_end h _
 ·exact sht_end h _
 ·exact h
theorem sht_run {m : Nat} : ∀ (l : List Tok) (p : PS), Sht m p.s → (∀ t, t ∈ l → t.f3.size ≤ m) → Sht m (l.foldl stepT p).s
 | [], p, h, _ => h
 | t :: l, p, h, hl => sht_run l (stepT p t) (sht_step h t (hl t (List.mem_cons_self ..))) fun u hu => hl u (List.mem_cons_of_mem _ hu)
theorem seg_len (L : List UInt8) : ∀ (r : List Tok) (a b : Int) (x y : Bool), Seg L a x r b y → (r.length : Int) ≤ b - a := by
 intro r
 induction r with
 | nil => intro a b x y h; obtain ⟨rfl, _⟩ := h; simp
 | cons u r ih =>
  intro a b x y h
  obtain ⟨h1, h2, h3, h4, h5, h6⟩ := h
  have := ih _ _ _ _ h6
  rw [List.length_cons]; omega
theorem lexV_small (s : ByteArray) (h : (lexV s).2 = 0) : s.size ≤ 65536 := by
 unfold lexV at h
 split at h
 ·exact absurd h (by decide)
 ·omega
end Go.Proofs.YtlhhhlimjajnlaaGreat.X
end
section
set_option linter.unusedVariables false
set_option linter.unusedSimpArgs false
namespace Go.Proofs.YtlhhhlimjajnlaaGreat.P14
open Go.RowKit Go.Proofs.YtlhhhlimjajnlaaGreat Go.Proofs.YtlhhhlimjajnlaaGreat.Q Go.Proofs.YtlhhhlimjajnlaaGreatW.PrintWords Go.Proofs.YtlhhhlimjajnlaaGreat.X Go.Proofs.YtlhhhlimjajnlaaGreat.Ck
section
variable {κ : Type} [DecidableEq κ]
theorem rows_adj : ∀ (n : Nat) (l : List (Nd × κ)) (op : List Int), l.length = n → rows l = some op → ∀ (j : Nat) (y z : Int), op[j]? = some y → op[j + 1]? = some z → ∀ (k : Nat) (c : Nd × κ), z < (k : Int) → l[k]? = some c → ¬ c.1.f2 = y
 | 0, l, op, hn, h, j, y, z, hy, hz, k, c, hk, hc => by
  have : l = [] := List.eq_nil_of_length_eq_zero hn
  rw [this] at hc; simp at hc
 | n + 1, l, op, hn, h, j, y, z, hy, hz, k, c, hk, hc => by
  rcases List.eq_nil_or_concat l with h' | ⟨pre, d, h'⟩
  ·rw [h'] at hn; exact absurd hn (by simp)
  rw [List.concat_eq_append] at h'
  subst h'
  obtain ⟨o, o', h1, h2, h3⟩ := rows_at pre [] d op h
  rw [h3] at h
  obtain rfl := Option.some.inj h
  have hpre : pre.length = n := by rw [List.length_append, List.length_singleton] at hn; omega
  obtain ⟨p1, p2⟩ := rows_path n pre o hpre h1
  have ih := rows_adj n pre o hpre h1
  have hkl : k < pre.length + 1 := by have := (List.getElem?_eq_some_iff.1 hc).1; rw [List.length_append, List.length_singleton] at this; exact this
  unfold right at h2
  by_cases hl : pre = []
  ·rw [if_pos hl] at h2
   split at h2
   ·obtain rfl := Option.some.inj h2
    simp at hz
   ·cases h2
  ·rw [if_neg hl] at h2
   by_cases hm : d.1.f2 ∈ o
   ·rw [if_pos hm] at h2
    simp only at h2
    have hlt := List.idxOf_lt_length_of_mem hm
    have inT : ∀ {j : Nat} {y z : Int}, (o.take (o.idxOf d.1.f2 + 1))[j]? = some y → (o.take (o.idxOf d.1.f2 + 1))[j + 1]? = some z → z < (k : Int) → ¬ c.1.f2 = y := by
     intro j y z hy hz hk
     rw [List.getElem?_take] at hy hz
     split at hz
     ·rename_i hj
      rw [if_pos (by omega)] at hy
      by_cases hkn : k < pre.length
      ·rw [List.getElem?_append_left hkn] at hc
       exact ih j y z hy hz k c hk hc
      ·rw [List.getElem?_append_right (by omega), show k - pre.length = 0 from by omega] at hc
       obtain rfl : d = c := Option.some.inj hc
       intro e
       have := p1.idx j y hy
       rw [← e] at this
       omega
     ·cases hz
    have oT : o' = o.take (o.idxOf d.1.f2 + 1) → ¬ c.1.f2 = y := fun e => by rw [e] at hy hz; exact inT hy hz hk
    split at h2
    ·split at h2
     ·cases h2
     ·obtain rfl := Option.some.inj h2
      by_cases hj : j + 1 < (o.take (o.idxOf d.1.f2 + 1)).length
      ·rw [List.getElem?_append_left (by omega)] at hy
       rw [List.getElem?_append_left hj] at hz
       exact inT hy hz hk
      ·have hjl := (List.getElem?_eq_some_iff.1 hz).1
       rw [List.length_append, List.length_singleton] at hjl
       rw [List.getElem?_append_right (by omega), show j + 1 - (o.take (o.idxOf d.1.f2 + 1)).length = 0 from by omega] at hz
       have hz : (pre.length : Int) = z := Option.some.inj hz
       omega
    ·split at h2
     ·split at h2
      ·cases h2
      ·exact oT (Option.some.inj h2).symm
     ·split at h2
      ·cases h2
      ·exact oT (Option.some.inj h2).symm
   ·rw [if_neg hm] at h2; cases h2
end
theorem range_cut {f : Nat → List UInt8} {m : Nat} : ∀ {n : Nat}, m ≤ n → (∀ k, m ≤ k → k < n → f k = []) → (List.range n).flatMap f = (List.range m).flatMap f
 | 0, hm, _ => by rw [show m = 0 from by omega]
 | n + 1, hm, h => by
  by_cases e : m = n + 1
  ·rw [e]
  ·rw [List.range_succ, List.flatMap_append, range_cut (n := n) (by omega) (fun k h1 h2 => h k h1 (by omega))]
   simp [h n (by omega) (by omega)]
theorem range_same {f g : Nat → List UInt8} : ∀ {n : Nat}, (∀ k, k < n → f k = g k) → (List.range n).flatMap f = (List.range n).flatMap g
 | 0, _ => rfl
 | n + 1, h => by
  rw [List.range_succ, List.flatMap_append, List.flatMap_append, range_same (n := n) (fun k hk => h k (by omega))]
  simp [h n (by omega)]
theorem range_one (f : Nat → List UInt8) (n : Nat) : (List.range (n + 1)).flatMap f = (List.range n).flatMap f ++ f n := by
 rw [List.range_succ, List.flatMap_append]; simp
def attW (N : List ByteArray) (x : Nod) : List UInt8 := [32] ++ (N.getD x.f1.toNat ⟨#[]⟩).data.toList ++ [61, 34] ++ escL x.f3.data.toList ++ [34]
def attK (N : List ByteArray) (D : List Nod) (i : Nat) (k : Nat) : List UInt8 := if (D.getD k nz).f2 = (i : Int) ∧ (D.getD k nz).f0 = 2 then attW N (D.getD k nz) else []
def bodK (g : Nat → List UInt8) (D : List Nod) (i : Nat) (k : Nat) : List UInt8 := if (D.getD k nz).f2 = (i : Int) ∧ ¬ (D.getD k nz).f0 = 2 then (if (D.getD k nz).f0 = 3 then escL (D.getD k nz).f3.data.toList else g k) else []
def headE (N : List ByteArray) (D : List Nod) (i : Nat) : List UInt8 := [60] ++ nameW N D (i : Int) ++ (List.range D.length).flatMap (attK N D i)
def endE (N : List ByteArray) (D : List Nod) (i : Nat) : List UInt8 := [60, 47] ++ nameW N D (i : Int) ++ [62]
def el : Nat → List ByteArray → List Nod → Nat → List UInt8
 | 0, _, _, _ => []
 | f + 1, N, D, i => headE N D i ++ [62] ++ (List.range D.length).flatMap (bodK (el f N D) D i) ++ endE N D i
def Low (D : List Nod) : Prop := ∀ k, k < D.length → (D.getD k nz).f2 < (k : Int)
theorem el_fuel {N : List ByteArray} {D : List Nod} (h : Low D) : ∀ (f g i : Nat), i < D.length → D.length ≤ i + f → D.length ≤ i + g → el f N D i = el g N D i
 | 0, g, i, h1, h2, h3 => by omega
 | f + 1, 0, i, h1, h2, h3 => by omega
 | f + 1, g + 1, i, h1, h2, h3 => by
  unfold el
  rw [range_same (f := bodK (el f N D) D i) (g := bodK (el g N D) D i)]
  intro k hk
  unfold bodK
  split
  ·rename_i hc
   have := h k hk
   rw [el_fuel h f g k hk (by omega) (by omega)]
  ·rfl
abbrev elP (N : List ByteArray) (D : List Nod) : Nat → List UInt8 := el D.length N D
theorem elP_eq {N : List ByteArray} {D : List Nod} (h : Low D) {i : Nat} (hi : i < D.length) : elP N D i = headE N D i ++ [62] ++ (List.range D.length).flatMap (bodK (elP N D) D i) ++ endE N D i := by
 rw [show elP N D i = el (D.length + 1) N D i from el_fuel h _ _ i hi (by omega) (by omega)]; rfl
def opn (N : List ByteArray) (P : List Nod) (z lim : Nat) : List UInt8 := headE N P z ++ [62] ++ (List.range lim).flatMap (bodK (elP N P) P z)
def Gw (N : List ByteArray) (P : List Nod) : List Int → List UInt8
 | [] => []
 | z :: r => opn N P z.toNat (r.headD (P.length : Int)).toNat ++ Gw N P r
theorem headD_mid {α : Type} (pre : List α) (y : α) (t : List α) (d : α) : (pre ++ y :: t).headD d = (pre ++ [y]).headD d := by cases pre <;> rfl
structure Rw (P : List Nod) (op : List Int) : Prop where
 r : rows (prK P) = some op
theorem Rw.path {P : List Nod} {op : List Int} (h : Rw P op) : Path (prK P) op := (rows_path _ _ _ rfl h.r).1
theorem prK_get (P : List Nod) (k : Nat) (hk : k < P.length) : (prK P)[k]? = some (P.getD k nz, (P.getD k nz).f1) := by
 unfold prK
 rw [List.getElem?_map, List.getD_eq_getElem?_getD, List.getElem?_eq_getElem hk]; rfl
theorem Rw.low {P : List Nod} {op : List Int} (h : Rw P op) : Low P := by
 intro k hk
 obtain ⟨o, o', -, -, r1, r2⟩ := rows_low (prK P) op h.r k _ (prK_get P k hk)
 rcases Nat.eq_zero_or_pos k with h0 | h0
 ·have := (r1 h0).2
  simp only at this
  omega
 ·exact (r2 h0).2.1
theorem Rw.at {P : List Nod} {op : List Int} (h : Rw P op) {j : Nat} {z : Int} (hz : op[j]? = some z) : 0 ≤ z ∧ z.toNat < P.length ∧ (P.getD z.toNat nz).f0 = 1 ∧ (P.getD z.toNat nz).f2 = (if j = 0 then -1 else op.getD (j - 1) 0) := by
 obtain ⟨z1, z2, ⟨c, z3, z4, z5⟩, -, -⟩ := h.path j z hz
 rw [prK_len] at z2
 have hlt : z.toNat < P.length := by omega
 rw [prK_get P z.toNat hlt] at z3
 obtain rfl := Option.some.inj z3
 exact ⟨z1, hlt, z4, z5⟩
theorem opn_close {N : List ByteArray} {P : List Nod} {op : List Int} (h : Rw P op) {j : Nat} {y z : Int} (hy : op[j]? = some y) (hz : op[j + 1]? = some z) : opn N P y.toNat z.toNat ++ opn N P z.toNat P.length ++ endE N P z.toNat = opn N P y.toNat P.length := by
 obtain ⟨y1, y2, -, -⟩ := h.at hy
 obtain ⟨z1, z2, z3, z4⟩ := h.at hz
 have hgy : op.getD j 0 = y := by rw [List.getD_eq_getElem?_getD, hy]; rfl
 rw [if_neg (by omega), Nat.add_sub_cancel, hgy] at z4
 have hcut : (List.range P.length).flatMap (bodK (elP N P) P y.toNat) = (List.range (z.toNat + 1)).flatMap (bodK (elP N P) P y.toNat) := by
  refine range_cut (by omega) fun k h1 h2 => ?_
  unfold bodK
  rw [if_neg]
  rintro ⟨e, -⟩
  exact rows_adj _ _ _ rfl h.r j y z hy hz k _ (by omega) (prK_get P k h2) (by show (P.getD k nz).f2 = y; omega)
 have hb : bodK (elP N P) P y.toNat z.toNat = elP N P z.toNat := by
  unfold bodK
  rw [if_pos ⟨by omega, by omega⟩, if_neg (by omega)]
 unfold opn
 rw [hcut, range_one, hb, elP_eq h.low z2]
 simp only [List.append_assoc]
theorem Gw_pop {N : List ByteArray} {P : List Nod} {op : List Int} (h : Rw P op) {y z : Int} : ∀ (pre : List Int) (a : Nat), (∀ (j : Nat) (v : Int), (pre ++ [y, z])[j]? = some v → op[a + j]? = some v) → Gw N P (pre ++ [y, z]) ++ endE N P z.toNat = Gw N P (pre ++ [y])
 | [], a, e => by
  have := opn_close (N := N) h (j := a) (y := y) (z := z) (e 0 y rfl) (e 1 z rfl)
  show opn N P y.toNat z.toNat ++ (opn N P z.toNat P.length ++ []) ++ endE N P z.toNat = opn N P y.toNat P.length ++ []
  rw [List.append_nil, List.append_nil]; exact this
 | b :: pre, a, e => by
  have ih := Gw_pop (N := N) h (y := y) (z := z) pre (a + 1) (fun j v hv => by have := e (j + 1) v hv; rw [show a + 1 + j = a + (j + 1) from by omega]; exact this)
  show opn N P b.toNat ((pre ++ [y, z]).headD (P.length : Int)).toNat ++ Gw N P (pre ++ [y, z]) ++ endE N P z.toNat = opn N P b.toNat ((pre ++ [y]).headD (P.length : Int)).toNat ++ Gw N P (pre ++ [y])
  rw [headD_mid pre y [z], List.append_assoc, ih]
structure Add (P : List Nod) (op o : List Int) (x : Nod) : Prop where
 rw : Rw P op
 cut : o = op.take (op.idxOf x.f2 + 1)
 mem : x.f2 ∈ op
theorem Add.last {P : List Nod} {op o : List Int} {x : Nod} (h : Add P op o x) : o = op.take (op.idxOf x.f2) ++ [x.f2] := by
 have hlt := List.idxOf_lt_length_of_mem h.mem
 rw [h.cut, List.take_add_one, List.getElem?_eq_getElem hlt, List.getElem_idxOf]; rfl
theorem Add.len {P : List Nod} {op o : List Int} {x : Nod} (h : Add P op o x) : o.length = op.idxOf x.f2 + 1 := by
 have hlt := List.idxOf_lt_length_of_mem h.mem
 rw [h.cut, List.length_take]; omega
theorem Add.get {P : List Nod} {op o : List Int} {x : Nod} (h : Add P op o x) {j : Nat} {z : Int} (hz : o[j]? = some z) : op[j]? = some z := by
 rw [h.cut, List.getElem?_take] at hz
 split at hz
 ·exact hz
 ·cases hz
theorem getD_old {P : List Nod} {x : Nod} {k : Nat} (hk : k < P.length) : (P ++ [x]).getD k nz = P.getD k nz := by
 rw [List.getD_eq_getElem?_getD, List.getD_eq_getElem?_getD, List.getElem?_append_left hk]
theorem getD_new {P : List Nod} {x : Nod} : (P ++ [x]).getD P.length nz = x := by
 rw [List.getD_eq_getElem?_getD, List.getElem?_append_right (Nat.le_refl _), Nat.sub_self]; rfl
theorem nameW_old {N : List ByteArray} {P : List Nod} {R : List Nod} {z : Int} (hz : z.toNat < P.length) : nameW N (P ++ R) z = nameW N P z := by
 have e : ∀ d, (P ++ R).getD z.toNat d = P.getD z.toNat d := fun d => by rw [List.getD_eq_getElem?_getD, List.getD_eq_getElem?_getD, List.getElem?_append_left hz]
 unfold nameW
 rw [e]
theorem attK_old {N : List ByteArray} {P : List Nod} {x : Nod} {i k : Nat} (hk : k < P.length) : attK N (P ++ [x]) i k = attK N P i k := by
 unfold attK; rw [getD_old hk]
theorem Add.kid {P : List Nod} {op o : List Int} {x : Nod} (h : Add P op o x) {k c : Nat} (hk : (k : Int) ∈ o) (hc : (P.getD k nz).f2 = (c : Int)) : ∃ j, o[j]? = some (c : Int) ∧ o[j + 1]? = some (k : Int) := by
 obtain ⟨j, hj⟩ := List.mem_iff_getElem?.1 hk
 obtain ⟨q1, q2, q3, q4⟩ := h.rw.at (h.get hj)
 rw [Int.toNat_natCast, hc] at q4
 by_cases e : j = 0
 ·rw [if_pos e] at q4; omega
 ·rw [if_neg e] at q4
  have hl := (List.getElem?_eq_some_iff.1 hj).1
  have hg : o[j - 1]? = some o[j - 1] := List.getElem?_eq_getElem (by omega)
  rw [List.getD_eq_getElem?_getD, h.get hg] at q4
  have q4 : (c : Int) = o[j - 1] := q4
  exact ⟨j - 1, by rw [hg, q4], by rw [show j - 1 + 1 = j from by omega]; exact hj⟩
theorem Add.headE {N : List ByteArray} {P : List Nod} {op o : List Int} {x : Nod} (h : Add P op o x) {c : Nat} (hc : c < P.length) (hx : ¬ (x.f2 = (c : Int) ∧ x.f0 = 2)) : headE N (P ++ [x]) c = P14.headE N P c := by
 unfold P14.headE
 rw [nameW_old (by rw [Int.toNat_natCast]; exact hc), List.length_append, List.length_singleton, range_one, range_same (f := attK N (P ++ [x]) c) (g := attK N P c) (fun k hk => attK_old hk)]
 have : attK N (P ++ [x]) c P.length = [] := by unfold attK; rw [getD_new, if_neg hx]
 rw [this, List.append_nil]
theorem Add.el {N : List ByteArray} {P : List Nod} {op o : List Int} {x : Nod} (h : Add P op o x) : ∀ (f c : Nat), c < P.length → ¬ (c : Int) ∈ o → el f N (P ++ [x]) c = P14.el f N P c
 | 0, c, _, _ => rfl
 | f + 1, c, hc, ho => by
  have hx : ¬ x.f2 = (c : Int) := fun e => ho (by rw [← e, h.last]; simp)
  unfold P14.el
  rw [h.headE hc (fun e => hx e.1), show endE N (P ++ [x]) c = endE N P c from by unfold endE; rw [nameW_old (by rw [Int.toNat_natCast]; exact hc)]]
  rw [List.length_append, List.length_singleton, range_one, show bodK (P14.el f N (P ++ [x])) (P ++ [x]) c P.length = [] from by unfold bodK; rw [getD_new, if_neg (fun e => hx e.1)], List.append_nil]
  rw [range_same (f := bodK (P14.el f N (P ++ [x])) (P ++ [x]) c) (g := bodK (P14.el f N P) P c)]
  intro k hk
  unfold bodK
  rw [getD_old hk]
  split
  ·rename_i e
   rw [h.el f k hk]
   intro hm
   obtain ⟨j, hj, -⟩ := h.kid hm e.1
   exact ho (List.mem_of_getElem? hj)
  ·rfl
theorem Add.elP {N : List ByteArray} {P : List Nod} {op o : List Int} {x : Nod} (h : Add P op o x) (hl : Low (P ++ [x])) {c : Nat} (hc : c < P.length) (ho : ¬ (c : Int) ∈ o) : elP N (P ++ [x]) c = P14.elP N P c := by
 have hL : (P ++ [x]).length = P.length + 1 := by simp
 show P14.el (P ++ [x]).length N (P ++ [x]) c = P14.el P.length N P c
 rw [hL, h.el _ c hc ho]
 exact el_fuel h.rw.low _ _ c hc (by omega) (by omega)
theorem Add.opn {N : List ByteArray} {P : List Nod} {op o : List Int} {x : Nod} (h : Add P op o x) (hl : Low (P ++ [x])) {c lim : Nat} (hc : c < P.length) (hx : ¬ (x.f2 = (c : Int) ∧ x.f0 = 2)) (hlim : lim ≤ P.length) (hk : ∀ k, k < lim → (P.getD k nz).f2 = (c : Int) → ¬ (k : Int) ∈ o) : opn N (P ++ [x]) c lim = P14.opn N P c lim := by
 unfold P14.opn
 rw [h.headE hc hx, range_same (f := bodK (P14.elP N (P ++ [x])) (P ++ [x]) c) (g := bodK (P14.elP N P) P c)]
 intro k hkl
 unfold bodK
 rw [getD_old (by omega)]
 split
 ·rename_i e
  rw [h.elP hl (by omega) (hk k hkl e.1)]
 ·rfl
theorem Add.path {P : List Nod} {op o : List Int} {x : Nod} (h : Add P op o x) : Path (prK P) o := by rw [h.cut]; exact h.rw.path.take _
theorem Add.inner {P : List Nod} {op o : List Int} {x : Nod} (h : Add P op o x) {j : Nat} {b : Int} (hb : o[j]? = some b) {lim : Nat} (hlim : ∀ z, o[j + 1]? = some z → (lim : Int) ≤ z) : ∀ k, k < lim → (P.getD k nz).f2 = ((b.toNat : Nat) : Int) → ¬ (k : Int) ∈ o := by
 intro k hk he hm
 obtain ⟨b1, -, -, -⟩ := h.rw.at (h.get hb)
 rw [show ((b.toNat : Nat) : Int) = b from by omega] at he
 have he' : (P.getD k nz).f2 = ((b.toNat : Nat) : Int) := by omega
 obtain ⟨i, h1, h2⟩ := h.kid hm he'
 rw [show ((b.toNat : Nat) : Int) = b from by omega] at h1
 have e1 := h.path.idx j b hb
 have e2 := h.path.idx i b h1
 have : (lim : Int) ≤ (k : Int) := hlim k (by rw [show j + 1 = i + 1 from by omega]; exact h2)
 omega
def Gq (N : List ByteArray) (P : List Nod) (p : Int) : List Int → List UInt8
 | [] => []
 | b :: r => opn N P b.toNat ((r ++ [p]).headD 0).toNat ++ Gq N P p r
theorem headD_end {α : Type} (r : List α) (p : α) (d e : α) : (r ++ [p]).headD d = (r ++ [p]).headD e := by cases r <;> rfl
theorem Gw_q {N : List ByteArray} {P : List Nod} {p : Int} (t : List Int) : ∀ r : List Int, Gw N P (r ++ p :: t) = Gq N P p r ++ Gw N P (p :: t)
 | [] => rfl
 | b :: r => by
  show opn N P b.toNat ((r ++ p :: t).headD (P.length : Int)).toNat ++ Gw N P (r ++ p :: t) = opn N P b.toNat ((r ++ [p]).headD 0).toNat ++ Gq N P p r ++ Gw N P (p :: t)
  rw [Gw_q t r, headD_mid r p t, headD_end r p _ 0, List.append_assoc]
theorem Add.Gq {N : List ByteArray} {P : List Nod} {op o : List Int} {x : Nod} (h : Add P op o x) (hl : Low (P ++ [x])) : ∀ (r a : List Int), o = a ++ (r ++ [x.f2]) → P14.Gq N (P ++ [x]) x.f2 r = P14.Gq N P x.f2 r
 | [], a, _ => rfl
 | b :: r, a, ho => by
  have ih := h.Gq hl (N := N) r (a ++ [b]) (by rw [ho]; simp)
  have hb : o[a.length]? = some b := by rw [ho, List.getElem?_append_right (Nat.le_refl _)]; simp
  obtain ⟨z, hz, hzl⟩ : ∃ z, o[a.length + 1]? = some z ∧ ∀ d, (r ++ [x.f2]).headD d = z := by
   rw [ho, List.getElem?_append_right (by omega)]
   cases r with
   | nil => exact ⟨x.f2, by simp, fun d => rfl⟩
   | cons c r => exact ⟨c, by simp, fun d => rfl⟩
  obtain ⟨b1, b2, -, -⟩ := h.rw.at (h.get hb)
  obtain ⟨z1, z2, -, -⟩ := h.rw.at (h.get hz)
  have hne : ¬ x.f2 = b := by
   intro e
   have e1 := h.path.idx _ b hb
   have e2 := h.path.idx (o.length - 1) x.f2 (by rw [h.last, List.length_append, List.length_singleton, List.getElem?_append_right (by omega)]; simp)
   rw [e] at e2
   have := (List.getElem?_eq_some_iff.1 hz).1
   omega
  show P14.opn N (P ++ [x]) b.toNat ((r ++ [x.f2]).headD 0).toNat ++ P14.Gq N (P ++ [x]) x.f2 r = P14.opn N P b.toNat ((r ++ [x.f2]).headD 0).toNat ++ P14.Gq N P x.f2 r
  rw [ih, hzl, h.opn hl b2 (fun e => hne (by omega)) (by omega) (h.inner hb (fun z' hz' => by rw [hz] at hz'; obtain rfl := Option.some.inj hz'; omega))]
end Go.Proofs.YtlhhhlimjajnlaaGreat.P14
end
section
set_option linter.unusedVariables false
set_option linter.unusedSimpArgs false
namespace Go.Proofs.YtlhhhlimjajnlaaGreat.P14
open Go.RowKit Go.Proofs.YtlhhhlimjajnlaaGreat Go.Proofs.YtlhhhlimjajnlaaGreat.Q Go.Proofs.YtlhhhlimjajnlaaGreatW.PrintWords Go.Proofs.YtlhhhlimjajnlaaGreat.X Go.Proofs.YtlhhhlimjajnlaaGreat.Ck
theorem ready_false {s : WS} (h : s.bg = false) : (readyW s).out = s.out := by unfold readyW; rw [if_neg (by rw [h]; decide)]
theorem ready_true {s : WS} (h : s.bg = true) : (readyW s).out = s.out ++ [62] := by unfold readyW; rw [if_pos h]
section
variable {N : List ByteArray} {P R : List Nod} {op : List Int}
theorem endE_at (h : Rw P op) {j : Nat} {z : Int} (hz : op[j]? = some z) : [60, 47] ++ nameW N (P ++ R) z ++ [62] = endE N P z.toNat := by
 obtain ⟨z1, z2, -, -⟩ := h.at hz
 unfold endE
 rw [nameW_old z2, show ((z.toNat : Nat) : Int) = z from by omega]
theorem take_last {m : Nat} (hm : m < op.length) : op.take (m + 1) = op.take m ++ [op[m]] := by rw [List.take_add_one, List.getElem?_eq_getElem hm]; rfl
theorem pop_two (h : Rw P op) {s : WS} {m : Nat} (hm : m + 1 < op.length) (hs : s.op = op.take (m + 2)) (ho : (readyW s).out = Gw N P s.op) : (popW N (P ++ R) s).op = op.take (m + 1) ∧ (popW N (P ++ R) s).out = Gw N P (op.take (m + 1)) ∧ (popW N (P ++ R) s).bg = false := by
 have e2 : op.take (m + 2) = op.take m ++ [op[m], op[m + 1]] := by rw [show m + 2 = (m + 1) + 1 from rfl, take_last hm, take_last (by omega), List.append_assoc]; rfl
 have e1 : op.take (m + 1) = op.take m ++ [op[m]] := take_last (by omega)
 refine ⟨?_, ?_, rfl⟩
 ·show s.op.dropLast = _
  rw [hs, e2, e1, show op.take m ++ [op[m], op[m + 1]] = (op.take m ++ [op[m]]) ++ [op[m + 1]] from by rw [List.append_assoc]; rfl, List.dropLast_concat]
 ·show (readyW s).out ++ ([60, 47] ++ nameW N (P ++ R) (s.op.getLastD 0) ++ [62]) = _
  have hl : s.op.getLastD 0 = op[m + 1] := by rw [hs, show m + 2 = (m + 1) + 1 from rfl, take_last hm, List.getLastD_concat]
  rw [hl, endE_at h (List.getElem?_eq_getElem hm), ho, hs, e2, e1]
  refine Gw_pop h (op.take m) 0 fun j v hv => ?_
  rw [← e2, List.getElem?_take] at hv
  split at hv
  ·rw [Nat.zero_add]; exact hv
  ·cases hv
theorem close_go (h : Rw P op) {p : Int} : ∀ (k m : Nat) (s : WS), m ≤ op.length → s.op = op.take m → p ∈ s.op → m ≤ k → (readyW s).out = Gw N P s.op →
 (closeW N (P ++ R) p k s).op = op.take (op.idxOf p + 1) ∧ (readyW (closeW N (P ++ R) p k s)).out = Gw N P (op.take (op.idxOf p + 1)) ∧ ((closeW N (P ++ R) p k s = s ∧ m = op.idxOf p + 1) ∨ ((closeW N (P ++ R) p k s).bg = false ∧ op.idxOf p + 1 < m))
 | 0, m, s, hm, hs, hp, hk, ho => by
  obtain rfl : m = 0 := by omega
  rw [hs] at hp; simp at hp
 | k + 1, m, s, hm, hs, hp, hk, ho => by
  obtain ⟨j, hj⟩ := List.mem_iff_getElem?.1 hp
  rw [hs, List.getElem?_take] at hj
  split at hj
  case isFalse => cases hj
  rename_i hjm
  have hix := h.path.idx j p hj
  have hne : ¬ s.op = [] := fun e => by rw [e] at hp; cases hp
  obtain ⟨q, rfl⟩ : ∃ q, m = q + 1 := ⟨m - 1, by omega⟩
  have hl : s.op.getLastD 0 = op[q] := by rw [hs, take_last (by omega), List.getLastD_concat]
  unfold closeW
  by_cases c : op[q] = p
  ·rw [if_pos (.inr (by rw [hl, c]))]
   have := h.path.idx q p (by rw [List.getElem?_eq_getElem (by omega), c])
   have e : op.idxOf p + 1 = q + 1 := by omega
   rw [e, ← hs]
   exact ⟨rfl, ho, .inl ⟨rfl, rfl⟩⟩
  ·rw [if_neg (fun e => e.elim hne fun e => c (by rw [← hl]; exact e))]
   have hjq : j < q := by
    rcases Nat.lt_or_ge j q with e | e
    ·exact e
    ·exfalso
     obtain rfl : j = q := by omega
     rw [List.getElem?_eq_getElem (by omega)] at hj
     exact c (Option.some.inj hj)
   obtain ⟨r, rfl⟩ : ∃ r, q = r + 1 := ⟨q - 1, by omega⟩
   obtain ⟨q1, q2, q3⟩ := pop_two (R := R) h (by omega) hs ho
   obtain ⟨i1, i2, i3⟩ := close_go h k (r + 1) (popW N (P ++ R) s) (by omega) q1 (by rw [q1]; exact List.mem_of_getElem? (by rw [List.getElem?_take_of_lt (by omega)]; exact hj : (op.take (r + 1))[j]? = some p)) (by omega) (by rw [ready_false q3, q2, q1])
   refine ⟨i1, i2, .inr ⟨?_, by omega⟩⟩
   rcases i3 with ⟨e, -⟩ | ⟨e, -⟩
   ·rw [e]; exact q3
   ·exact e
theorem close_all (h : Rw P op) : ∀ (k m : Nat) (s : WS), m < op.length → s.op = op.take (m + 1) → m < k → (readyW s).out = Gw N P s.op → (closeW N (P ++ R) (-1) k s).out = elP N P 0
 | 0, m, s, hm, hs, hk, ho => by omega
 | k + 1, m, s, hm, hs, hk, ho => by
  have hl : s.op.getLastD 0 = op[m] := by rw [hs, take_last hm, List.getLastD_concat]
  have hz := h.at (List.getElem?_eq_getElem hm)
  have hne : ¬ s.op = [] := fun e => by
   have := congrArg List.length e
   rw [hs, List.length_take, List.length_nil] at this; omega
  unfold closeW
  rw [if_neg (fun e => e.elim hne fun e => by rw [hl] at e; omega)]
  cases m with
  | zero =>
   have h0 : op[0] = 0 := (h.path 0 _ (List.getElem?_eq_getElem hm)).2.2.2.1 rfl
   have e1 : op.take 1 = [0] := by rw [take_last hm, h0]; rfl
   have hop : (popW N (P ++ R) s).op = [] := by show s.op.dropLast = []; rw [hs, e1]; rfl
   have hcl : closeW N (P ++ R) (-1) k (popW N (P ++ R) s) = popW N (P ++ R) s := by
    cases k with
    | zero => rfl
    | succ k => unfold closeW; rw [if_pos (.inl hop)]
   rw [hcl]
   show (readyW s).out ++ ([60, 47] ++ nameW N (P ++ R) (s.op.getLastD 0) ++ [62]) = _
   rw [hl, endE_at h (List.getElem?_eq_getElem hm), ho, hs, e1, h0, elP_eq h.low (by have := hz.2.1; rw [h0] at this; exact this)]
   show opn N P 0 P.length ++ [] ++ endE N P 0 = _
   rw [List.append_nil]; rfl
  | succ m =>
   obtain ⟨q1, q2, q3⟩ := pop_two (R := R) h hm hs ho
   exact close_all h k m _ (by omega) q1 (by omega) (by rw [ready_false q3, q2, q1])
end
structure WI (N : List ByteArray) (P : List Nod) (s : WS) : Prop where
 r : Rw P s.op
 out : (readyW s).out = Gw N P s.op
 bg : ∀ z, s.op.getLast? = some z → s.bg = !(more (prK P) z)
theorem WI.zero (N : List ByteArray) : WI N [] ⟨[], [], false⟩ := ⟨⟨rfl⟩, rfl, fun z hz => by cases hz⟩
theorem more_of {P : List Nod} {k : Nat} (hk : k < P.length) {p : Int} (h2 : (P.getD k nz).f2 = p) (h0 : ¬ (P.getD k nz).f0 = 2) : more (prK P) p = true := by
 unfold more
 rw [List.any_eq_true]
 refine ⟨(P.getD k nz, (P.getD k nz).f1), ?_, by simpa using h0⟩
 unfold kids
 rw [List.mem_filter]
 exact ⟨List.mem_of_getElem? (prK_get P k hk), by simpa using h2⟩
theorem more_not {P : List Nod} {p : Int} (h : more (prK P) p = false) {k : Nat} (hk : k < P.length) (h2 : (P.getD k nz).f2 = p) : (P.getD k nz).f0 = 2 := by
 by_cases c : (P.getD k nz).f0 = 2
 ·exact c
 ·rw [more_of hk h2 c] at h; cases h
theorem snoc_len {P : List Nod} {x : Nod} : (P ++ [x]).length = P.length + 1 := by simp
theorem body_none {f : Nat → List UInt8} : ∀ {n : Nat}, (∀ k, k < n → f k = []) → (List.range n).flatMap f = []
 | 0, _ => rfl
 | n + 1, h => by rw [range_one, body_none (n := n) (fun k hk => h k (by omega)), h n (by omega)]; rfl
theorem WI.step {N : List ByteArray} {P R : List Nod} {x : Nod} {s : WS} {o : List Int} (h : WI N P s) (hx : x.f0 = 1 ∨ x.f0 = 2 ∨ x.f0 = 3) (hr : right (prK P) s.op x x.f1 = some o) : WI N (P ++ [x]) (nodeW N (P ++ x :: R) P.length x s) := by
 have hap : prK (P ++ [x]) = prK P ++ [(x, x.f1)] := prK_app _ _
 have hro : Rw (P ++ [x]) o := ⟨by rw [hap, rows_snoc _ _ _ h.r.r]; exact hr⟩
 have hl : Low (P ++ [x]) := hro.low
 unfold nodeW
 simp only
 have hr' := hr
 unfold right at hr
 by_cases hP : prK P = []
 ·have hP0 : P = [] := prK_nil.1 hP
  subst hP0
  rw [if_pos hP] at hr
  by_cases c : x.f0 = 1 ∧ x.f2 = -1
  case neg => rw [if_neg c] at hr; cases hr
  rw [if_pos c] at hr
  obtain rfl := Option.some.inj hr
  have hop : s.op = [] := (rows_path _ _ _ rfl h.r.r).2.1 rfl
  have hcl : closeW N ([] ++ x :: R) x.f2 s.op.length s = s := by rw [hop]; rfl
  rw [hcl, if_neg (by omega), if_neg (by omega)]
  have hout : (readyW s).out = [] := by rw [h.out, hop]; rfl
  have h2 : ∀ k : Nat, k < ([] ++ [x] : List Nod).length → ¬ (([] ++ [x] : List Nod).getD k nz).f2 = ((0 : Nat) : Int) := by
   intro k hk
   obtain rfl : k = 0 := by simp at hk; exact hk
   show ¬ x.f2 = _
   omega
  refine ⟨?_, ?_, ?_⟩
  ·show Rw ([] ++ [x]) ((readyW s).op ++ [((List.length ([] : List Nod) : Nat) : Int)])
   rw [show (readyW s).op = [] from hop]; exact hro
  ·rw [ready_true rfl]
   show (readyW s).out ++ ([60] ++ (N.getD x.f1.toNat ⟨#[]⟩).data.toList) ++ [62] = Gw N ([] ++ [x]) ((readyW s).op ++ [((List.length ([] : List Nod) : Nat) : Int)])
   rw [hout, show (readyW s).op = [] from hop]
   show _ = opn N ([] ++ [x]) 0 ([] ++ [x] : List Nod).length ++ []
   unfold opn headE
   rw [body_none (fun k hk => by unfold attK; rw [if_neg (fun e => h2 k hk e.1)]), body_none (fun k hk => by unfold bodK; rw [if_neg (fun e => h2 k hk e.1)])]
   simp [nameW]
  ·intro z hz
   have hz : ((readyW s).op ++ [((List.length ([] : List Nod) : Nat) : Int)]).getLast? = some z := hz
   rw [List.getLast?_concat] at hz
   obtain rfl := Option.some.inj hz
   show true = !(more (prK ([] ++ [x])) 0)
   have : more (prK ([] ++ [x])) 0 = false := by
    rw [hap, more_snoc, if_neg (by show ¬ x.f2 = 0; omega)]; rfl
   rw [this]; rfl
 ·rw [if_neg hP] at hr
  by_cases hm : x.f2 ∈ s.op
  case neg => rw [if_neg hm] at hr; cases hr
  rw [if_pos hm] at hr
  simp only at hr
  obtain ⟨c1, c2, c3⟩ := close_go (R := x :: R) h.r s.op.length s.op.length s (Nat.le_refl _) (List.take_length).symm hm (Nat.le_refl _) h.out
  have hA : Add P s.op (s.op.take (s.op.idxOf x.f2 + 1)) x := ⟨h.r, rfl, hm⟩
  obtain ⟨t, ht⟩ : ∃ t, s.op.take (s.op.idxOf x.f2) = t := ⟨_, rfl⟩
  have hlast := hA.last
  rw [ht] at hlast
  have hlt := List.idxOf_lt_length_of_mem hm
  have hgt : s.op[s.op.idxOf x.f2]? = some x.f2 := by rw [List.getElem?_eq_getElem hlt, List.getElem_idxOf]
  obtain ⟨p1, p2, p3, p4⟩ := h.r.at hgt
  have hpc : ((x.f2.toNat : Nat) : Int) = x.f2 := by omega
  have hGq := hA.Gq (N := N) hl t [] hlast
  have hkid : ∀ k, k < P.length → (P.getD k nz).f2 = ((x.f2.toNat : Nat) : Int) → ¬ (k : Int) ∈ s.op.take (s.op.idxOf x.f2 + 1) :=
   hA.inner (j := s.op.idxOf x.f2) (b := x.f2) (by rw [List.getElem?_take_of_lt (by omega)]; exact hgt) (fun z hz => by
    have := (List.getElem?_eq_some_iff.1 hz).1
    rw [hA.len] at this; omega)
  generalize closeW N (P ++ x :: R) x.f2 s.op.length s = c at *
  rw [hlast] at c1 c2
  have hro' := hro
  by_cases k2 : x.f0 = 2
  ·rw [if_pos k2]
   rw [if_neg (by omega), if_pos k2] at hr
   split at hr
   ·cases hr
   rename_i hmt
   obtain rfl := Option.some.inj hr
   rw [hlast] at hro
   have hmore : more (prK P) x.f2 = false := by
    cases e : more (prK P) x.f2 with
    | false => rfl
    | true => exact absurd (.inl e) hmt
   obtain ⟨e, em⟩ : c = s ∧ s.op.length = s.op.idxOf x.f2 + 1 := by
    rcases c3 with c3 | ⟨-, c3⟩
    ·exact c3
    ·exfalso
     have hz : s.op[s.op.idxOf x.f2 + 1]? = some s.op[s.op.idxOf x.f2 + 1] := List.getElem?_eq_getElem c3
     obtain ⟨z1, z2, z3, z4⟩ := h.r.at hz
     rw [if_neg (by omega), Nat.add_sub_cancel, show s.op.getD (s.op.idxOf x.f2) 0 = x.f2 from by rw [List.getD_eq_getElem?_getD, hgt]; rfl] at z4
     have := more_not hmore z2 z4
     omega
   subst e
   have hbg : c.bg = true := by
    have := h.bg x.f2 (by rw [c1]; exact List.getLast?_concat ..)
    rw [this, hmore]; rfl
   rw [ready_true hbg, Gw_q, show P14.Gw N P [x.f2] = headE N P x.f2.toNat ++ [62] from by
    show opn N P x.f2.toNat P.length ++ [] = _
    unfold opn
    rw [body_none (fun k hk => by unfold bodK; rw [if_neg (fun e => e.2 (more_not hmore hk (by rw [e.1, hpc])))]), List.append_nil, List.append_nil], ← List.append_assoc] at c2
   have c2 := List.append_cancel_right c2
   refine ⟨?_, ?_, ?_⟩
   ·show Rw (P ++ [x]) c.op
    rw [c1]; exact hro
   ·rw [ready_true (by exact hbg)]
    show c.out ++ ([32] ++ (N.getD x.f1.toNat ⟨#[]⟩).data.toList ++ [61, 34] ++ escL x.f3.data.toList ++ [34]) ++ [62] = Gw N (P ++ [x]) c.op
    rw [c1, Gw_q, hGq, c2]
    have e1 : headE N (P ++ [x]) x.f2.toNat = headE N P x.f2.toNat ++ attW N x := by
     unfold headE
     rw [nameW_old (by rw [hpc]; exact p2), snoc_len, range_one, range_same (f := attK N (P ++ [x]) x.f2.toNat) (g := attK N P x.f2.toNat) (fun k hk => attK_old hk)]
     have : attK N (P ++ [x]) x.f2.toNat P.length = attW N x := by unfold attK; rw [getD_new, if_pos ⟨hpc.symm, k2⟩]
     rw [this]; simp
    have e2 : P14.Gw N (P ++ [x]) [x.f2] = headE N P x.f2.toNat ++ attW N x ++ [62] := by
     show opn N (P ++ [x]) x.f2.toNat (P ++ [x]).length ++ [] = _
     unfold opn
     rw [e1, body_none (fun k hk => by
      unfold bodK
      rw [if_neg]
      rintro ⟨e, e'⟩
      rw [snoc_len] at hk
      by_cases hkn : k < P.length
      ·rw [getD_old hkn] at e e'
       exact e' (more_not hmore hkn (by rw [e, hpc]))
      ·obtain rfl : k = P.length := by omega
       rw [getD_new] at e'
       exact e' k2), List.append_nil, List.append_nil]
    rw [e2]
    unfold attW
    simp only [List.append_assoc]
   ·intro z hz
    have hz : c.op.getLast? = some z := hz
    rw [c1, List.getLast?_concat] at hz
    obtain rfl := Option.some.inj hz
    show c.bg = _
    rw [hbg, hap, more_snoc, if_pos rfl, hmore]
    simp [k2]
  ·rw [if_neg k2]
   have hopn : opn N (P ++ [x]) x.f2.toNat P.length = opn N P x.f2.toNat P.length := hA.opn hl p2 (fun e => k2 e.2) (Nat.le_refl _) hkid
   have hGp : Gw N P (t ++ [x.f2]) = Gq N P x.f2 t ++ opn N P x.f2.toNat P.length := by
    rw [Gw_q]
    show _ ++ (opn N P x.f2.toNat P.length ++ []) = _
    rw [List.append_nil]
   by_cases k3 : x.f0 = 3
   ·rw [if_pos k3]
    rw [if_neg (by omega), if_neg k2] at hr
    split at hr
    ·cases hr
    obtain rfl := Option.some.inj hr
    rw [hlast] at hro
    refine ⟨?_, ?_, ?_⟩
    ·show Rw (P ++ [x]) c.op
     rw [c1]; exact hro
    ·rw [ready_false rfl]
     show (readyW c).out ++ escL x.f3.data.toList = Gw N (P ++ [x]) c.op
     rw [c2, c1, hGp, Gw_q, hGq]
     show _ = Gq N P x.f2 t ++ (opn N (P ++ [x]) x.f2.toNat (P ++ [x]).length ++ [])
     have e : opn N (P ++ [x]) x.f2.toNat (P ++ [x]).length = opn N P x.f2.toNat P.length ++ escL x.f3.data.toList := by
      rw [← hopn]
      unfold opn
      rw [snoc_len, range_one, show bodK (elP N (P ++ [x])) (P ++ [x]) x.f2.toNat P.length = escL x.f3.data.toList from by unfold bodK; rw [getD_new, if_pos ⟨hpc.symm, k2⟩, if_pos k3]]
      simp only [List.append_assoc]
     rw [e, List.append_nil, List.append_assoc]
    ·intro z hz
     have hz : c.op.getLast? = some z := hz
     rw [c1, List.getLast?_concat] at hz
     obtain rfl := Option.some.inj hz
     show false = _
     rw [hap, more_snoc, if_pos rfl]
     simp [k2]
   ·have k1 : x.f0 = 1 := by omega
    rw [if_neg k3]
    rw [if_pos k1] at hr
    split at hr
    ·cases hr
    obtain rfl := Option.some.inj hr
    rw [hlast, prK_len] at hro
    have hk0 : ∀ k, k < (P ++ [x]).length → ¬ ((P ++ [x]).getD k nz).f2 = ((P.length : Nat) : Int) := by
     intro k hk e
     rw [snoc_len] at hk
     have := hl k (by rw [snoc_len]; exact hk)
     omega
    refine ⟨?_, ?_, ?_⟩
    ·show Rw (P ++ [x]) ((readyW c).op ++ [(P.length : Int)])
     rw [show (readyW c).op = c.op from rfl, c1]; exact hro
    ·rw [ready_true rfl]
     show (readyW c).out ++ ([60] ++ (N.getD x.f1.toNat ⟨#[]⟩).data.toList) ++ [62] = Gw N (P ++ [x]) ((readyW c).op ++ [(P.length : Int)])
     rw [show (readyW c).op = c.op from rfl, c1, c2, hGp, show t ++ [x.f2] ++ [(P.length : Int)] = t ++ x.f2 :: [(P.length : Int)] from by simp, Gw_q, hGq]
     show _ = Gq N P x.f2 t ++ (opn N (P ++ [x]) x.f2.toNat ((P.length : Int)).toNat ++ (opn N (P ++ [x]) ((P.length : Int)).toNat (P ++ [x]).length ++ []))
     rw [Int.toNat_natCast, hopn]
     have e : opn N (P ++ [x]) P.length (P ++ [x]).length = [60] ++ (N.getD x.f1.toNat ⟨#[]⟩).data.toList ++ [62] := by
      unfold opn headE
      rw [body_none (fun k hk => by unfold attK; rw [if_neg (fun e => hk0 k hk e.1)]), body_none (fun k hk => by unfold bodK; rw [if_neg (fun e => hk0 k hk e.1)])]
      unfold nameW
      have e : ∀ d, (P ++ [x]).getD P.length d = x := fun d => by rw [List.getD_eq_getElem?_getD, List.getElem?_append_right (Nat.le_refl _), Nat.sub_self]; rfl
      rw [Int.toNat_natCast, e]; simp
     rw [e]
     simp only [List.append_assoc, List.append_nil]
    ·intro z hz
     have hz : ((readyW c).op ++ [(P.length : Int)]).getLast? = some z := hz
     rw [List.getLast?_concat] at hz
     obtain rfl := Option.some.inj hz
     show true = !(more (prK (P ++ [x])) (P.length : Int))
     have : more (prK (P ++ [x])) (P.length : Int) = false := by
      cases e : more (prK (P ++ [x])) (P.length : Int) with
      | false => rfl
      | true =>
       exfalso
       unfold more at e
       rw [List.any_eq_true] at e
       obtain ⟨d, hd, -⟩ := e
       obtain ⟨i, i1, i2, i3⟩ := kids_behind _ _ hro.r (P.length : Int) (by omega) d hd
       have := (List.getElem?_eq_some_iff.1 i1).1
       rw [prK_len, snoc_len] at this
       omega
     rw [this]; rfl
theorem nodes_WI {N : List ByteArray} : ∀ (R P : List Nod) (s : WS) (op : List Int), WI N P s → (∀ x, x ∈ R → x.f0 = 1 ∨ x.f0 = 2 ∨ x.f0 = 3) → rows (prK (P ++ R)) = some op → WI N (P ++ R) (nodesW N (P ++ R) R P.length s)
 | [], P, s, op, h, _, _ => by rw [List.append_nil]; exact h
 | x :: R, P, s, op, h, hk, hr => by
  rw [prK_app] at hr
  obtain ⟨o, o', h1, h2, h3⟩ := rows_at (prK P) (prK R) (x, x.f1) op hr
  rw [h.r.r] at h1
  obtain rfl := Option.some.inj h1
  have hs := h.step (R := R) (hk x (List.mem_cons_self ..)) h2
  have ih := nodes_WI R (P ++ [x]) _ op hs (fun y hy => hk y (List.mem_cons_of_mem _ hy)) (by rw [← hr, ← prK_app]; simp)
  rw [snoc_len, List.append_assoc] at ih
  exact ih
theorem end_el {N : List ByteArray} {D : List Nod} {op : List Int} (hk : ∀ x, x ∈ D → x.f0 = 1 ∨ x.f0 = 2 ∨ x.f0 = 3) (hD : 0 < D.length) (hr : rows (prK D) = some op) : (endW N D).out = elP N D 0 := by
 have h := nodes_WI (N := N) D [] ⟨[], [], false⟩ op (WI.zero N) hk hr
 rw [List.nil_append] at h
 have h : WI N D (nodesW N D D 0 ⟨[], [], false⟩) := h
 have hne : 0 < (nodesW N D D 0 ⟨[], [], false⟩).op.length := by
  rcases Nat.eq_zero_or_pos (nodesW N D D 0 ⟨[], [], false⟩).op.length with e | e
  ·have := (rows_path _ _ _ rfl h.r.r).2.2 (List.eq_nil_of_length_eq_zero e)
   have := congrArg List.length (prK_nil.1 this)
   rw [List.length_nil] at this; omega
  ·exact e
 have := close_all (N := N) (R := []) h.r (nodesW N D D 0 ⟨[], [], false⟩).op.length ((nodesW N D D 0 ⟨[], [], false⟩).op.length - 1) _ (by omega) (by rw [show (nodesW N D D 0 ⟨[], [], false⟩).op.length - 1 + 1 = (nodesW N D D 0 ⟨[], [], false⟩).op.length from by omega, List.take_length]) (by omega) h.out
 rw [List.append_nil] at this
 exact this
end Go.Proofs.YtlhhhlimjajnlaaGreat.P14
end
