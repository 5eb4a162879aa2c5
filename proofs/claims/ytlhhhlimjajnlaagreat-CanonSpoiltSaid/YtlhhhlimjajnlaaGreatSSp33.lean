/- Parts of the proof of canonSpoilt_holds, kept and merged by a program of mine (wip/tools/slim.py) out of my texts: R13a R13b R13c R13d R13e R13f R13h -/
import Derived.Test.YtlhhhlimjajnlaaGreatSSp0
import Derived.Test.YtlhhhlimjajnlaaGreatSSp4
import Derived.Test.YtlhhhlimjajnlaaGreatSSp22
import Derived.Test.YtlhhhlimjajnlaaGreatSSp24
import Derived.Test.YtlhhhlimjajnlaaGreatSSp27
import Derived.Test.YtlhhhlimjajnlaaGreatSSp23
section
set_option linter.unusedVariables false
set_option linter.unusedSimpArgs false
namespace Go.Proofs.YtlhhhlimjajnlaaGreat.R13
open Go.RowKit Go.Proofs.YtlhhhlimjajnlaaGreat Go.Proofs.YtlhhhlimjajnlaaGreat.Q Go.Proofs.YtlhhhlimjajnlaaGreat.P11 Go.Proofs.YtlhhhlimjajnlaaGreat.P12 Go.Proofs.YtlhhhlimjajnlaaGreatW.PrintWords Go.Proofs.YtlhhhlimjajnlaaGreat.X Go.Proofs.YtlhhhlimjajnlaaGreat.P13 Go.Proofs.YtlhhhlimjajnlaaGreat.Ck
abbrev Nm := S104
abbrev nob : ByteArray := ⟨#[]⟩
theorem rwr (n : Int) (h0 : -9223372036854775808 ≤ n) (h1 : n ≤ 9223372036854775807) : wrap64 n = n := by unfold wrap64; omega
theorem wr_up (i : Nat) (h : i ≤ 9000000000000000000) : wrap64 ((i : Int) + 1) = ((i + 1 : Nat) : Int) := by rw [rwr _ (by omega) (by omega)]; omega
theorem rd_tok (l : List Tok) (i : Nat) (t : Tok) (r : List Tok) (h : l.drop i = t :: r) : rd_T51 l (i : Int) = t ∧ (i : Int) < (l.length : Int) ∧ l.drop (i + 1) = r := by
 have hi : i < l.length := by
  rcases Nat.lt_or_ge i l.length with c | c
  ·exact c
  ·rw [List.drop_eq_nil_of_le c] at h; cases h
 rw [List.drop_eq_getElem_cons hi] at h
 injection h with h1 h2
 refine ⟨?_, by omega, h2⟩
 unfold rd_T51
 rw [Int.toNat_natCast, List.getD_eq_getElem?_getD, List.getElem?_eq_getElem hi, h1]; rfl
def Alt : Bool → List Tok → Prop
 | x, [] => x = false
 | x, t :: r => x = inTag t.f0 ∧ (1 ≤ t.f0 ∧ t.f0 ≤ 7) ∧ Alt (opens t.f0) r
def textsL : List Tok → ByteArray → ByteArray × Nat
 | [], s => (s, 0)
 | t :: r, s => if t.f0 = 6 then ((textsL r (s ++ t.f4)).1, (textsL r (s ++ t.f4)).2 + 1) else if t.f0 = 7 then ((textsL r s).1, (textsL r s).2 + 1) else (s, 0)
def tsize : List Tok → Nat
 | [] => 0
 | t :: r => (if t.f0 = 6 then t.f4.size else 0) + tsize r
theorem textsL_le : ∀ (r : List Tok) (s : ByteArray), (textsL r s).2 ≤ r.length
 | [], s => Nat.le_refl _
 | t :: r, s => by
  unfold textsL
  split
  ·have := textsL_le r (s ++ t.f4); rw [List.length_cons]; omega
  split
  ·have := textsL_le r s; rw [List.length_cons]; omega
  ·exact Nat.zero_le _
theorem textsL_some : ∀ (r : List Tok) (s : ByteArray), (textsL r s).2 = 0 → (textsL r s).1 = s
 | [], s, _ => rfl
 | t :: r, s, h => by
  unfold textsL at h ⊢
  split
  ·rename_i c; rw [if_pos c] at h; exact absurd h (by simp)
  ·rename_i c
   rw [if_neg c] at h
   split
   ·rename_i c2; rw [if_pos c2] at h; exact absurd h (by simp)
   ·rfl
theorem texts_machine : ∀ (r : List Tok) (p : PS), r.foldl X.stepT p = (r.drop (textsL r p.x).2).foldl X.stepT { p with x := (textsL r p.x).1 }
 | [], p => rfl
 | t :: r, p => by
  rw [List.foldl_cons]
  unfold textsL
  by_cases c6 : t.f0 = 6
  ·rw [if_pos c6, List.drop_succ_cons, show X.stepT p t = { p with x := p.x ++ t.f4 } from by unfold X.stepT; rw [if_neg (by omega), if_pos c6]]
   exact texts_machine r { p with x := p.x ++ t.f4 }
  rw [if_neg c6]
  by_cases c7 : t.f0 = 7
  ·rw [if_pos c7, List.drop_succ_cons, show X.stepT p t = p from by unfold X.stepT; rw [if_pos c7]]
   exact texts_machine r p
  ·rw [if_neg c7]; rfl
theorem texts_alt : ∀ (r : List Tok) (s : ByteArray), Alt false r → Alt false (r.drop (textsL r s).2) ∧ ∀ t r', r.drop (textsL r s).2 = t :: r' → t.f0 = 1 ∨ t.f0 = 5
 | [], s, h => ⟨h, fun t r' h => by cases h⟩
 | t :: r, s, h => by
  obtain ⟨h1, h2, h3⟩ := h
  unfold textsL
  by_cases c6 : t.f0 = 6
  ·rw [if_pos c6, List.drop_succ_cons]
   rw [c6] at h3
   exact texts_alt r (s ++ t.f4) h3
  rw [if_neg c6]
  by_cases c7 : t.f0 = 7
  ·rw [if_pos c7, List.drop_succ_cons]
   rw [c7] at h3
   exact texts_alt r s h3
  ·rw [if_neg c7]
   refine ⟨⟨h1, h2, h3⟩, fun t' r' he => ?_⟩
   have he : t :: r = t' :: r' := he
   injection he with he _
   subst he
   have hk : t.f0 = 1 ∨ t.f0 = 2 ∨ t.f0 = 3 ∨ t.f0 = 4 ∨ t.f0 = 5 := by omega
   rcases hk with h | h | h | h | h
   ·exact Or.inl h
   ·rw [h] at h1; exact absurd h1 (by decide)
   ·rw [h] at h1; exact absurd h1 (by decide)
   ·rw [h] at h1; exact absurd h1 (by decide)
   ·exact Or.inr h
theorem texts_l0 (l : List Tok) (hl : l.length ≤ 1000000) : ∀ (r : List Tok) (i : Nat) (s : ByteArray), l.drop i = r → i ≤ l.length → s.size + tsize r ≤ 9000000000000000000 →
 Ev (fun k => R3_texts.l0 k l i s) ((textsL r s).1, ((i + (textsL r s).2 : Nat) : Int))
 | [], i, s, hr, hi, _ => by
  have hge : l.length ≤ i := by
   rcases Nat.lt_or_ge i l.length with c | c
   ·rw [List.drop_eq_getElem_cons c] at hr; cases hr
   ·exact c
  refine ⟨2, fun k hk => ?_⟩
  obtain ⟨k, rfl⟩ : ∃ j, k = j + 2 := ⟨k - 2, by omega⟩
  show R3_texts.l0 (k + 2) l i s = _
  rw [R3_texts.l0, if_neg (by omega), R3_texts.j1, if_neg (by decide)]; rfl
 | t :: r, i, s, hr, hi, hs => by
  obtain ⟨e1, e2, e3⟩ := rd_tok l i t r hr
  have hw := wr_up i (by omega)
  unfold tsize at hs
  by_cases c6 : t.f0 = 6
  ·rw [if_pos c6] at hs
   obtain ⟨K, hK⟩ := texts_l0 l hl r (i + 1) (s ++ t.f4) e3 (by omega) (by rw [ByteArray.size_append]; omega)
   refine ⟨K + 2, fun k hk => ?_⟩
   obtain ⟨k, rfl⟩ : ∃ j, k = j + 2 := ⟨k - 2, by omega⟩
   have hK := hK k (by omega)
   show R3_texts.l0 (k + 2) l i s = _
   rw [R3_texts.l0, if_pos e2, if_pos (by omega), e1, if_pos c6, R3_texts.j1, if_pos rfl, if_pos (by omega), if_pos e2, e1, if_pos c6, if_pos (by omega), hw]
   unfold textsL
   rw [if_pos c6]
   rw [show i + ((textsL r (s ++ t.f4)).2 + 1) = i + 1 + (textsL r (s ++ t.f4)).2 from by omega]
   exact hK
  rw [if_neg c6] at hs
  by_cases c7 : t.f0 = 7
  ·obtain ⟨K, hK⟩ := texts_l0 l hl r (i + 1) s e3 (by omega) (by omega)
   refine ⟨K + 2, fun k hk => ?_⟩
   obtain ⟨k, rfl⟩ : ∃ j, k = j + 2 := ⟨k - 2, by omega⟩
   have hK := hK k (by omega)
   show R3_texts.l0 (k + 2) l i s = _
   rw [R3_texts.l0, if_pos e2, if_pos (by omega), e1, if_neg c6, c7, show ((7 : Int) == 7) = true from rfl, R3_texts.j1, if_pos rfl, if_pos (by omega), if_pos e2, e1, if_neg c6, hw]
   unfold textsL
   rw [if_neg c6, if_pos c7]
   rw [show i + ((textsL r s).2 + 1) = i + 1 + (textsL r s).2 from by omega]
   exact hK
  ·refine ⟨2, fun k hk => ?_⟩
   obtain ⟨k, rfl⟩ : ∃ j, k = j + 2 := ⟨k - 2, by omega⟩
   show R3_texts.l0 (k + 2) l i s = _
   rw [R3_texts.l0, if_pos e2, if_pos (by omega), e1, if_neg c6, show (t.f0 == 7) = false from by simpa using c7, R3_texts.j1, if_neg (by decide)]
   unfold textsL
   rw [if_neg c6, if_neg c7]; rfl
theorem texts_f (l : List Tok) (hl : l.length ≤ 1000000) (i : Nat) (hi : i ≤ l.length) (hs : tsize (l.drop i) ≤ 9000000000000000000) :
 Ev (fun k => R3_texts.f k l i) ((textsL (l.drop i) nob).1, ((i + (textsL (l.drop i) nob).2 : Nat) : Int)) :=
 texts_l0 l hl _ i nob rfl hi (by rw [show nob.size = 0 from rfl]; omega)
def zipN (p : PS) : List Nm := (p.n.zip p.s).map fun c => ⟨c.1, c.2⟩
theorem zipN_put {p q : PS} (h : p.s.length = p.n.length) (m : Nd) (s : ByteArray) (hn : q.n = p.n ++ [m]) (hs : q.s = p.s ++ [s]) : zipN q = zipN p ++ [⟨m, s⟩] := by
 unfold zipN
 rw [hn, hs, List.zip_append h.symm, List.map_append]; rfl
theorem zipN_len {p : PS} (h : p.s.length = p.n.length) : (zipN p).length = p.n.length := by
 unfold zipN; rw [List.length_map, List.length_zip, h, Nat.min_self]
theorem zipN_same {p q : PS} (hn : q.n = p.n) (hs : q.s = p.s) : zipN q = zipN p := by unfold zipN; rw [hn, hs]
theorem zipN_at {p : PS} (h : p.s.length = p.n.length) (i : Nat) (hi : i < p.n.length) : rd_T104 (zipN p) (i : Int) = ⟨p.n.getD i Ck.nz, p.s.getD i nob⟩ := by
 unfold rd_T104 zipN
 rw [Int.toNat_natCast]
 simp only [List.getD_eq_getElem?_getD, List.getElem?_map]
 rw [List.getElem?_eq_getElem (show i < (p.n.zip p.s).length by rw [List.length_zip]; omega), List.getElem?_eq_getElem hi, List.getElem?_eq_getElem (show i < p.s.length by omega)]
 simp
def Bad (p : PS) : Prop := p.wr = true ∨ ¬ p.o = []
theorem bad_run (r : List Tok) (p : PS) (h : p.wr = true) : Bad (r.foldl X.stepT p) := by
 left
 cases hw : (r.foldl X.stepT p).wr with
 | true => rfl
 | false => rw [wr_run r hw] at h; cases h
theorem set_x (q : PS) (h : q.x = nob) : ({ q with x := ⟨#[]⟩ } : PS) = q := by cases q; simp only at h; subst h; rfl
theorem flush_no (p : PS) (h : p.x = nob) : flushP p = p := by
 unfold flushP
 rw [h, if_pos rfl]
 exact set_x p h
theorem flush_x (p : PS) : (flushP p).x = nob := (flush_keeps p).2.1
theorem flush_twice (p : PS) : flushP (flushP p) = flushP p := flush_no _ (flush_x p)
theorem begin_flush (p : PS) (name : ByteArray) : beginP (flushP p) name = beginP p name := by unfold beginP; rw [flush_twice]
def Res (l : List Tok) (i : Nat) (q : PS) (o : List Int) (r : List Nm × Int × Bool) : Prop :=
 (r.2.2 = true → ∃ (j : Nat) (q' : PS), r.2.1 = (j : Int) ∧ i ≤ j ∧ j ≤ l.length ∧ (l.drop i).foldl X.stepT q = (l.drop j).foldl X.stepT q' ∧ zipN q' = r.1 ∧ q'.o = o ∧ q'.x = nob ∧ q'.wr = false ∧ q'.s.length = q'.n.length ∧ q'.n.length ≤ j ∧ (∃ tn ts, q'.n = q.n ++ tn ∧ q'.s = q.s ++ ts) ∧ Alt false (l.drop j)) ∧
 (r.2.2 = false → Bad ((l.drop i).foldl X.stepT q))
theorem Res.from {l : List Tok} {i i2 : Nat} {q q2 : PS} {o : List Int} {r : List Nm × Int × Bool} (h : Res l i2 q2 o r) (hi : i ≤ i2) (hm : (l.drop i).foldl X.stepT q = (l.drop i2).foldl X.stepT q2) (hn : ∃ tn ts, q2.n = q.n ++ tn ∧ q2.s = q.s ++ ts) : Res l i q o r := by
 obtain ⟨h1, h2⟩ := h
 refine ⟨fun ht => ?_, fun hf => by rw [hm]; exact h2 hf⟩
 obtain ⟨j, q', g1, g2, g3, g4, g5, g6, g7, g8, g9, g10, ⟨tn, ts, g11, g12⟩, g13⟩ := h1 ht
 obtain ⟨un, us, k1, k2⟩ := hn
 exact ⟨j, q', g1, by omega, g3, by rw [hm, g4], g5, g6, g7, g8, g9, g10, ⟨un ++ tn, us ++ ts, by rw [g11, k1, List.append_assoc], by rw [g12, k2, List.append_assoc]⟩, g13⟩
structure In (q : PS) (o : List Int) (me : Nat) (name : ByteArray) (i : Nat) : Prop where
 op : q.o = o ++ [(me : Int)]
 len : q.s.length = q.n.length
 lt : me < q.n.length
 nm : q.s.getD me nob = name
 x : q.x = nob
 wr : q.wr = false
 small : q.n.length ≤ i
 pos : ∀ z, z ∈ o → 0 ≤ z
theorem In.top {q : PS} {o : List Int} {me : Nat} {name : ByteArray} {i : Nat} (h : In q o me name i) : topP q.o = (me : Int) := by rw [h.op]; unfold topP; rw [List.getLast?_concat]; rfl
theorem getD_app (a b : List ByteArray) (i : Nat) (h : i < a.length) : (a ++ b).getD i nob = a.getD i nob := by
 rw [List.getD_eq_getElem?_getD, List.getD_eq_getElem?_getD, List.getElem?_append_left h]
theorem In.flush {q : PS} {o : List Int} {me : Nat} {name : ByteArray} {i : Nat} (h : In q o me name i) (s : ByteArray) (j : Nat) (hj : i ≤ j) (hs : ¬ s.data.toList = [] → i + 1 ≤ j) : In (flushP { q with x := s }) o me name j ∧ zipN (flushP { q with x := s }) = (if s.data.toList = [] then zipN q else zipN q ++ [⟨⟨3, -1, (me : Int), s⟩, nob⟩]) ∧ ∃ tn ts, (flushP { q with x := s }).n = q.n ++ tn ∧ (flushP { q with x := s }).s = q.s ++ ts := by
 have ht := h.top
 obtain ⟨h1, h2, h3, h4, h5, h6, h7, h8⟩ := h
 unfold flushP
 by_cases c : s.data.toList = []
 ·rw [if_pos c, if_pos c]
  exact ⟨⟨h1, h2, h3, h4, rfl, h6, by show q.n.length ≤ j; omega, h8⟩, rfl, [], [], by simp, by simp⟩
 ·rw [if_neg c, if_neg c, if_neg (by show ¬ topP q.o < 0; omega)]
  have hz : zipN (putP { { q with x := s } with x := ⟨#[]⟩ } 3 (-1) s ⟨#[]⟩) = zipN q ++ [⟨⟨3, -1, (me : Int), s⟩, nob⟩] := by
   rw [← ht]; exact zipN_put h2 _ _ rfl rfl
  have := hs c
  refine ⟨⟨h1, ?_, ?_, ?_, rfl, h6, ?_, h8⟩, hz, _, _, rfl, rfl⟩
  ·show (q.s ++ [_]).length = (q.n ++ [_]).length
   rw [List.length_append, List.length_append, h2]; rfl
  ·show me < (q.n ++ [_]).length; rw [List.length_append]; omega
  ·show (q.s ++ [_]).getD me nob = name; rw [getD_app _ _ _ (by omega)]; exact h4
  ·show (q.n ++ [_]).length ≤ j; rw [List.length_append, List.length_singleton]; omega
theorem end_flush (p : PS) (name : ByteArray) : endP (flushP p) name = endP p name := by unfold endP; rw [flush_twice]
theorem In.close {q : PS} {o : List Int} {me : Nat} {name : ByteArray} {i : Nat} (h : In q o me name i) (t : ByteArray) : endP q t = if name.data.toList = t.data.toList then { q with o := o } else { q with wr := true } := by
 unfold endP
 simp only
 rw [flush_no q h.x, h.top]
 by_cases c : name.data.toList = t.data.toList
 ·rw [if_pos c, if_neg]
  ·rw [h.op, List.dropLast_concat]
  ·rintro (c' | c')
   ·omega
   ·apply c'
    rw [Int.toNat_natCast]
    show (q.s.getD me nob).data.toList = _
    rw [h.nm]; exact c
 ·rw [if_neg c, if_pos]
  right
  rw [Int.toNat_natCast]
  show ¬ (q.s.getD me nob).data.toList = _
  rw [h.nm]; exact c
end Go.Proofs.YtlhhhlimjajnlaaGreat.R13
end
section
set_option linter.unusedVariables false
set_option linter.unusedSimpArgs false
namespace Go.Proofs.YtlhhhlimjajnlaaGreat.R13
open Go.RowKit Go.Proofs.YtlhhhlimjajnlaaGreat Go.Proofs.YtlhhhlimjajnlaaGreat.Q Go.Proofs.YtlhhhlimjajnlaaGreat.P11 Go.Proofs.YtlhhhlimjajnlaaGreat.P12 Go.Proofs.YtlhhhlimjajnlaaGreatW.PrintWords Go.Proofs.YtlhhhlimjajnlaaGreat.X Go.Proofs.YtlhhhlimjajnlaaGreat.P13 Go.Proofs.YtlhhhlimjajnlaaGreat.Ck
section
variable (l : List Tok) (hl : l.length ≤ 2900) (hts : tsize l ≤ 9000000000000000000)
def E (m : Nat) : Prop := ∀ (i : Nat) (p : PS) (deep : Nat) (t : Tok) (r : List Tok), l.drop i = t :: r → t.f0 = 1 → Alt false (l.drop i) → l.length - i ≤ m → p.x = nob → p.wr = false → (p.o = [] → p.n = []) → (∀ z, z ∈ p.o → 0 ≤ z) → p.s.length = p.n.length → p.n.length ≤ i → deep ≤ i →
 ∃ res, Ev (fun k => R3_element.f k l i (topP p.o) (zipN p) deep) res ∧ Res l i p p.o res ∧ (res.2.2 = true → (i : Int) < res.2.1 ∧ 0 < res.1.length)
end
end Go.Proofs.YtlhhhlimjajnlaaGreat.R13
end
section
set_option linter.unusedVariables false
set_option linter.unusedSimpArgs false
namespace Go.Proofs.YtlhhhlimjajnlaaGreat.R13
open Go.RowKit Go.Proofs.YtlhhhlimjajnlaaGreat Go.Proofs.YtlhhhlimjajnlaaGreat.Q Go.Proofs.YtlhhhlimjajnlaaGreat.P11 Go.Proofs.YtlhhhlimjajnlaaGreat.P12 Go.Proofs.YtlhhhlimjajnlaaGreatW.PrintWords Go.Proofs.YtlhhhlimjajnlaaGreat.X Go.Proofs.YtlhhhlimjajnlaaGreat.P13 Go.Proofs.YtlhhhlimjajnlaaGreat.Ck
theorem snoc_ind {α : Type} {P : List α → Prop} (h0 : P []) (h1 : ∀ l a, P l → P (l ++ [a])) : ∀ l, P l := by
 have main : ∀ (n : Nat) (l : List α), l.length = n → P l := by
  intro n
  induction n with
  | zero => intro l hl; rw [List.eq_nil_of_length_eq_zero hl]; exact h0
  | succ n ih =>
   intro l hl
   rcases List.eq_nil_or_concat l with h | ⟨pre, a, h⟩
   ·rw [h] at hl; cases hl
   ·rw [List.concat_eq_append] at h
    subst h
    exact h1 _ _ (ih pre (by rw [List.length_append, List.length_singleton] at hl; omega))
 exact fun l => main _ l rfl
def dep1 (ds : List Int) (m : Nd) : Int := if 0 ≤ m.f2 then ds.getD m.f2.toNat 0 + 1 else 0
def deps (n : List Nd) : List Int := n.foldl (fun ds m => ds ++ [dep1 ds m]) []
theorem deps_snoc (n : List Nd) (m : Nd) : deps (n ++ [m]) = deps n ++ [dep1 (deps n) m] := by unfold deps; rw [List.foldl_append]; rfl
theorem deps_len : ∀ n : List Nd, (deps n).length = n.length := by
 intro n
 induction n using snoc_ind with
 | h0 => rfl
 | h1 n m ih => rw [deps_snoc, List.length_append, List.length_append, ih]; rfl
theorem deps_take (n : List Nd) : ∀ i, i ≤ n.length → deps (n.take i) = (deps n).take i := by
 induction n using snoc_ind with
 | h0 => intro i hi; simp [deps]
 | h1 n m ih =>
  intro i hi
  rw [deps_snoc]
  rcases Nat.lt_or_ge n.length i with c | c
  ·have : i = n.length + 1 := by rw [List.length_append, List.length_singleton] at hi; omega
   rw [List.take_of_length_le (zz38), List.take_of_length_le (by rw [List.length_append, List.length_singleton, deps_len]; omega), deps_snoc]
  ·rw [List.take_append_of_le_length c, List.take_append_of_le_length (by rw [deps_len]; exact c), ih i c]
theorem deps_at (n : List Nd) (i : Nat) (hi : i < n.length) : (deps n).getD i 0 = dep1 ((deps n).take i) (n.getD i Ck.nz) := by
 have h1 := deps_take n (i + 1) (by omega)
 rw [List.take_succ_eq_append_getElem hi, deps_snoc, deps_take n i (by omega)] at h1
 have h2 := congrArg (fun l => l.getD i 0) h1
 simp only [List.getD_eq_getElem?_getD] at h2 ⊢
 rw [List.getElem?_append_right (by rw [List.length_take]; omega), List.length_take, deps_len, Nat.min_eq_left (by omega), Nat.sub_self, List.getElem?_take_of_lt (by omega)] at h2
 rw [← h2, List.getElem?_eq_getElem hi]; rfl
def Deep (n : List Nd) : Prop := ∃ i, i < n.length ∧ (n.getD i Ck.nz).f0 = 1 ∧ 64 < (deps n).getD i 0
theorem getD_n (a b : List Nd) (i : Nat) (h : i < a.length) : (a ++ b).getD i Ck.nz = a.getD i Ck.nz := by
 rw [List.getD_eq_getElem?_getD, List.getD_eq_getElem?_getD, List.getElem?_append_left h]
theorem getD_i (a b : List Int) (i : Nat) (h : i < a.length) : (a ++ b).getD i 0 = a.getD i 0 := by
 rw [List.getD_eq_getElem?_getD, List.getD_eq_getElem?_getD, List.getElem?_append_left h]
theorem deep_snoc (n : List Nd) (m : Nd) : Deep (n ++ [m]) ↔ Deep n ∨ (m.f0 = 1 ∧ 64 < dep1 (deps n) m) := by
 unfold Deep
 rw [deps_snoc]
 constructor
 ·rintro ⟨i, h1, h2, h3⟩
  rw [List.length_append, List.length_singleton] at h1
  rcases Nat.lt_or_ge i n.length with c | c
  ·left
   rw [getD_n _ _ _ c] at h2
   rw [getD_i _ _ _ (by rw [deps_len]; exact c)] at h3
   exact ⟨i, c, h2, h3⟩
  ·right
   have : i = n.length := by omega
   subst this
   rw [List.getD_eq_getElem?_getD, List.getElem?_append_right (Nat.le_refl _), Nat.sub_self] at h2
   rw [List.getD_eq_getElem?_getD, List.getElem?_append_right (by rw [deps_len]; exact Nat.le_refl _), deps_len, Nat.sub_self] at h3
   exact ⟨h2, h3⟩
 ·rintro (⟨i, h1, h2, h3⟩ | ⟨h1, h2⟩)
  ·exact ⟨i, zz39, by rw [getD_n _ _ _ h1]; exact h2, by rw [getD_i _ _ _ (by rw [deps_len]; exact h1)]; exact h3⟩
  ·refine ⟨n.length, zz38, ?_, ?_⟩
   ·rw [List.getD_eq_getElem?_getD, List.getElem?_append_right (Nat.le_refl _), Nat.sub_self]; exact h1
   ·rw [List.getD_eq_getElem?_getD, List.getElem?_append_right (by rw [deps_len]; exact Nat.le_refl _), deps_len, Nat.sub_self]; exact h2
structure Dp (p : PS) : Prop where
 len : p.s.length = p.n.length
 op : ∀ (j : Nat) (z : Int), p.o[j]? = some z → 0 ≤ z ∧ z < (p.n.length : Int) ∧ (deps p.n).getD z.toNat 0 = (j : Int)
 deep : p.dp = true ↔ Deep p.n
 low : ∀ (i : Nat) m, p.n[i]? = some m → -1 ≤ m.f2 ∧ m.f2 < (i : Int)
theorem Dp.top {p : PS} (h : Dp p) : (p.o = [] ∧ topP p.o = -1) ∨ (0 ≤ topP p.o ∧ topP p.o < (p.n.length : Int) ∧ (deps p.n).getD (topP p.o).toNat 0 = (p.o.length : Int) - 1) := by
 by_cases ho : p.o = []
 ·left; exact ⟨ho, by rw [ho]; rfl⟩
 ·right
  have hpos : 0 < p.o.length := List.length_pos_iff.2 ho
  have hz : p.o[p.o.length - 1]? = some (topP p.o) := by
   unfold topP
   rw [List.getLast?_eq_getElem?, List.getElem?_eq_getElem (by omega)]; rfl
  obtain ⟨h1, h2, h3⟩ := h.op _ _ hz
  exact ⟨h1, h2, by rw [h3]; omega⟩
theorem Dp.dep {p : PS} (h : Dp p) (m : Nd) (hm : m.f2 = topP p.o) : dep1 (deps p.n) m = (p.o.length : Int) := by
 unfold dep1
 rw [hm]
 rcases h.top with ⟨h1, h2⟩ | ⟨h1, h2, h3⟩
 ·rw [h2, if_neg (by decide), h1]; rfl
 ·rw [if_pos h1, h3]; omega
theorem Dp.put {p q : PS} (h : Dp p) (m : Nd) (s : ByteArray) (hm : m.f2 = topP p.o) (hn : q.n = p.n ++ [m]) (hs : q.s = p.s ++ [s]) (ho : ∀ (j : Nat) z, q.o[j]? = some z → p.o[j]? = some z ∨ (j = p.o.length ∧ z = (p.n.length : Int))) (hd : q.dp = true ↔ p.dp = true ∨ (m.f0 = 1 ∧ 64 < (p.o.length : Int))) : Dp q := by
 refine ⟨by rw [hn, hs, List.length_append, List.length_append, h.len]; rfl, fun j z hz => ?_, ?_, fun i x hx => ?_⟩
 ·rw [hn, List.length_append, List.length_singleton, deps_snoc]
  rcases ho j z hz with h' | ⟨rfl, rfl⟩
  ·obtain ⟨h1, h2, h3⟩ := h.op j z h'
   exact ⟨h1, by omega, by rw [getD_i _ _ _ (by rw [deps_len]; omega)]; exact h3⟩
  ·refine ⟨by omega, by omega, ?_⟩
   rw [Int.toNat_natCast, List.getD_eq_getElem?_getD, List.getElem?_append_right (by rw [deps_len]; exact Nat.le_refl _), deps_len, Nat.sub_self]
   show dep1 (deps p.n) m = _
   exact h.dep m hm
 ·rw [hd, h.deep, hn, deep_snoc, h.dep m hm]
 ·rw [hn] at hx
  rcases Nat.lt_or_ge i p.n.length with c | c
  ·rw [List.getElem?_append_left c] at hx; exact h.low i x hx
  ·rw [List.getElem?_append_right c] at hx
   have hl := (List.getElem?_eq_some_iff.1 hx).1
   rw [List.length_singleton] at hl
   rw [show i - p.n.length = 0 from by omega] at hx
   rw [← Option.some.inj hx, hm]
   rcases h.top with ⟨h1, h2⟩ | ⟨h1, h2, h3⟩ <;> omega
theorem Dp.flush {p : PS} (h : Dp p) : Dp (flushP p) := by
 unfold flushP
 split
 ·exact ⟨h.len, h.op, h.deep, h.low⟩
 split
 ·exact ⟨h.len, h.op, h.deep, h.low⟩
 ·refine h.put ⟨3, -1, topP p.o, p.x⟩ ⟨#[]⟩ rfl rfl rfl (fun j z hz => Or.inl hz) ⟨Or.inl, ?_⟩
  rintro (h' | ⟨h', -⟩)
  ·exact h'
  ·exact absurd h' (by show ¬ (3 : Int) = 1; omega)
theorem Dp.end {p : PS} (h : Dp p) (name : ByteArray) : Dp (endP p name) := by
 have hf := h.flush
 unfold endP
 simp only
 split
 ·exact ⟨hf.len, hf.op, hf.deep, hf.low⟩
 ·refine ⟨hf.len, fun j z hz => hf.op j z ?_, hf.deep, hf.low⟩
  have hz : (flushP p).o.dropLast[j]? = some z := hz
  rw [List.getElem?_dropLast] at hz
  split at hz
  ·exact hz
  ·cases hz
theorem Dp.step {p : PS} (h : Dp p) (t : Tok) : Dp (X.stepT p t) := by
 unfold X.stepT
 split
 ·exact h
 split
 ·exact ⟨h.len, h.op, h.deep, h.low⟩
 split
 ·refine h.flush.put (q := beginP p t.f3) ⟨1, 0, topP (flushP p).o, ⟨#[]⟩⟩ t.f3 rfl rfl rfl (fun j z hz => ?_) ?_
  ·have hz : ((flushP p).o ++ [((flushP p).n.length : Int)])[j]? = some z := hz
   rcases Nat.lt_or_ge j (flushP p).o.length with c | c
   ·rw [List.getElem?_append_left c] at hz; exact Or.inl hz
   ·rw [List.getElem?_append_right c] at hz
    have hl := (List.getElem?_eq_some_iff.1 hz).1
    rw [List.length_singleton] at hl
    rw [show j - (flushP p).o.length = 0 from by omega] at hz
    exact Or.inr ⟨by omega, (Option.some.inj hz).symm⟩
  ·show ((flushP p).dp || decide ((64 : Int) < (flushP p).o.length)) = true ↔ _
   rw [Bool.or_eq_true, decide_eq_true_iff]
   constructor
   ·rintro (h' | h')
    ·exact Or.inl h'
    ·exact Or.inr ⟨rfl, h'⟩
   ·rintro (h' | ⟨-, h'⟩)
    ·exact Or.inl h'
    ·exact Or.inr h'
 split
 ·refine h.put (q := attrS p t.f3 t.f4) ⟨2, 0, topP p.o, t.f4⟩ t.f3 rfl rfl rfl (fun j z hz => Or.inl hz) ⟨Or.inl, ?_⟩
  rintro (h' | ⟨h', -⟩)
  ·exact h'
  ·exact absurd h' (by show ¬ (2 : Int) = 1; omega)
 split
 ·exact h.end _
 split
 ·exact h.end _
 ·exact h
theorem Dp.run : ∀ (r : List Tok) {p : PS}, Dp p → Dp (r.foldl X.stepT p)
 | [], p, h => h
 | t :: r, p, h => Dp.run r (h.step t)
theorem dp_zero : Dp psZero := ⟨rfl, fun j z hz => by simp [psZero] at hz, ⟨fun h => (by cases h), fun ⟨i, h, _⟩ => absurd h (by show ¬ i < 0; omega)⟩, fun i m hm => by simp [psZero] at hm⟩
theorem mem_namesOf {p : PS} (h : p.s.length = p.n.length) (x : List UInt8) : x ∈ namesOf p ↔ ∃ j, j < p.n.length ∧ ¬ (p.n.getD j Ck.nz).f0 = 3 ∧ (p.s.getD j nob).data.toList = x := by
 constructor
 ·intro hx
  unfold namesOf at hx
  obtain ⟨c, hc, he⟩ := List.mem_filterMap.1 hx
  split at he
  ·cases he
  ·rename_i h3
   obtain ⟨j, hj⟩ := List.mem_iff_getElem?.1 hc
   rw [List.getElem?_zip_eq_some] at hj
   refine ⟨j, (List.getElem?_eq_some_iff.1 hj.1).1, ?_, ?_⟩
   ·rw [List.getD_eq_getElem?_getD, hj.1]; exact h3
   ·rw [List.getD_eq_getElem?_getD, hj.2]; exact Option.some.inj he
 ·rintro ⟨j, h1, h2, rfl⟩
  exact mem_names p h j h1 h2
def limR (p : PS) : List ByteArray × List Nd × Int :=
 if p.dp = true ∨ 1000 < (sortedP (namesOf p)).length then ([], [], 18) else ((sortedP (namesOf p)).map bytesL, treeN p, 0)
def NmsUp (p : PS) (i : Nat) (A : List ByteArray) : Prop := Inc A ∧ A.length ≤ i ∧ ∀ x, x ∈ A ↔ ∃ j, j < i ∧ ¬ (p.n.getD j Ck.nz).f0 = 3 ∧ p.s.getD j nob = x
theorem names_all {p : PS} (h : p.s.length = p.n.length) (A : List ByteArray) (hA : NmsUp p p.n.length A) : A = (sortedP (namesOf p)).map bytesL := by
 refine inc_eq hA.1 (inc_sorted _) fun x => ?_
 rw [hA.2.2, List.mem_map]
 constructor
 ·rintro ⟨j, h1, h2, rfl⟩
  exact ⟨_, (P13.mem_sorted _ _).2 ((mem_namesOf h _).2 ⟨j, h1, h2, rfl⟩), bytesL_data _⟩
 ·rintro ⟨y, hy, rfl⟩
  obtain ⟨j, h1, h2, h3⟩ := (mem_namesOf h y).1 ((P13.mem_sorted _ _).1 hy)
  exact ⟨j, h1, h2, by rw [← h3, bytesL_data]⟩
def Kin7 (l : List Tok) : Prop := ∀ t, t ∈ l → 1 ≤ t.f0 ∧ t.f0 ≤ 7
theorem kin7_app {l r : List Tok} (h1 : Kin7 l) (h2 : Kin7 r) : Kin7 (l ++ r) := fun t ht => by
 rcases List.mem_append.1 ht with h | h
 ·exact h1 t h
 ·exact h2 t h
theorem kin7_one {t : Tok} (h : 1 ≤ t.f0 ∧ t.f0 ≤ 7) : Kin7 [t] := fun u hu => by rw [List.mem_singleton.1 hu]; exact h
theorem attrs_kin7 (d : ByteArray) : ∀ (n : Nat) (a : Int) (acc r : List Tok) (a' : Int), Kin7 acc → attrsF d n a acc = some (r, a') → Kin7 r := by
 intro n
 induction n with
 | zero => intro a acc r a' _ h; cases h
 | succ n ih =>
  intro a acc r a' hacc h
  unfold attrsF at h
  split at h
  ·injection h with h; injection h with h2 h3
   rw [← h2]; exact kin7_app hacc (kin7_one (by show (1 : Int) ≤ 3 ∧ (3 : Int) ≤ 7; omega))
  split at h
  ·injection h with h; injection h with h2 h3
   rw [← h2]; exact kin7_app hacc (kin7_one (by show (1 : Int) ≤ 4 ∧ (4 : Int) ≤ 7; omega))
  cases hA : attrP d a with
  | none => rw [hA] at h; cases h
  | some v =>
   obtain ⟨new, p⟩ := v
   rw [hA] at h
   exact ih p (acc ++ new) r a' (kin7_app hacc fun t ht => by rw [attr_kind d a new p hA t ht]; omega) h
theorem step_kin7 (d : ByteArray) (a : Int) (new : List Tok) (a' : Int) (h : stepP d a = some (new, a')) : Kin7 new := by
 unfold stepP at h
 split at h
 ·unfold commentP at h
  simp only at h
  split at h
  ·cases h
  split at h
  ·injection h with h; injection h with h2 h3
   rw [← h2]; exact kin7_one (by show (1 : Int) ≤ 7 ∧ (7 : Int) ≤ 7; omega)
  ·cases h
 split at h
 ·unfold plainP at h
  simp only at h
  split at h
  ·injection h with h; injection h with h2 h3
   rw [← h2]; exact kin7_one (by show (1 : Int) ≤ 6 ∧ (6 : Int) ≤ 7; omega)
  ·cases h
 split at h
 ·unfold closingP at h
  simp only at h
  split at h
  ·cases h
  split at h
  ·injection h with h; injection h with h2 h3
   rw [← h2]; exact kin7_one (by show (1 : Int) ≤ 5 ∧ (5 : Int) ≤ 7; omega)
  ·cases h
 split at h
 ·unfold tagP at h
  simp only at h
  split at h
  ·cases h
  ·exact attrs_kin7 d _ _ _ _ _ (kin7_one (by show (1 : Int) ≤ 1 ∧ (1 : Int) ≤ 7; omega)) h
 ·unfold textP at h
  simp only at h
  cases hd : dec (Lib.cut (d.data.toList.drop a.toNat) [60]).1 with
  | none => rw [hd] at h; cases h
  | some v =>
   rw [hd] at h
   injection h with h; injection h with h2 h3
   rw [← h2]; exact kin7_one (by show (1 : Int) ≤ 6 ∧ (6 : Int) ≤ 7; omega)
theorem lexF_kin7 (s : ByteArray) (n : Nat) : ∀ (a : Int) (acc l : List Tok), Kin7 acc → lexF s n a acc = some l → Kin7 l := by
 induction n with
 | zero => intro a acc l _ h; cases h
 | succ n ih =>
  intro a acc l hv h
  unfold lexF at h
  split at h
  ·cases hS : stepP s a with
   | none => rw [hS] at h; cases h
   | some v =>
    obtain ⟨new, a'⟩ := v
    rw [hS] at h
    exact ih a' (acc ++ new) l (kin7_app hv (step_kin7 s a new a' hS)) h
  ·obtain rfl := Option.some.inj h
   exact hv
theorem lexV_kin7 (s : ByteArray) : Kin7 (lexV s).1 := by
 unfold lexV
 split
 ·intro t ht; cases ht
 split
 ·intro t ht; cases ht
 ·cases h : lexO s with
  | none => intro t ht; cases ht
  | some l => exact lexF_kin7 s _ 0 [] l (fun t ht => by cases ht) h
theorem seg_alt (L : List UInt8) : ∀ (r : List Tok) (a b : Int) (x : Bool), Seg L a x r b false → Kin7 r → Alt x r
 | [], a, b, x, h, _ => h.2
 | t :: r, a, b, x, h, hk => by
  obtain ⟨h1, h2, h3, h4, h5, h6⟩ := h
  exact ⟨h5, hk t (List.mem_cons_self ..), seg_alt L r _ _ _ h6 fun u hu => hk u (List.mem_cons_of_mem _ hu)⟩
theorem lexV_alt (s : ByteArray) (h : (lexV s).2 = 0) : Alt false (lexV s).1 := seg_alt _ _ _ _ _ (lexV_seg s h) (lexV_kin7 s)
theorem skipP_le (l : List UInt8) : 0 ≤ skipP l 0 ∧ skipP l 0 ≤ l.length := by
 unfold skipP
 split
 ·have := (List.takeWhile_prefix spaceB (l := l.drop (0 : Int).toNat)).length_le
  rw [List.length_drop] at this
  omega
 ·omega
def spacesB (s : ByteArray) : Bool := skipP s.data.toList 0 == (s.size : Int)
theorem spaces_f (s : ByteArray) (hs : s.size ≤ 65536) : Ev (fun k => R3_spaces.f k s) (spacesB s) := by
 refine ⟨200000, fun k hk => ?_⟩
 show R3_spaces.f k s = _
 unfold R3_spaces.f
 rw [skip_at s 0 hs k hk]; rfl
theorem bad_tree {p : PS} (h : Bad p) : treeP (flushP p) = (([], []), 15) := by
 unfold treeP
 rw [if_pos]
 rcases h with h | h
 ·left
  cases hw : (flushP p).wr with
  | true => rfl
  | false => rw [wr_flush hw] at h; cases h
 ·right; left
  rw [(flush_keeps p).1]
  exact List.length_pos_iff.2 h
theorem flush_out (q : PS) (ho : q.o = []) (hx : q.x = nob) (hw : q.wr = false) (s : ByteArray) : (spacesB s = true → flushP { q with x := s } = q) ∧ (spacesB s = false → (flushP { q with x := s }).wr = true) ∧ (flushP { q with x := s }).o = [] ∧ (flushP { q with x := s }).n = q.n := by
 have hsk := skipP_le s.data.toList
 have hsz : s.data.toList.length = s.size := (Lib.size_eq s).symm
 refine ⟨fun h => ?_, fun h => ?_, ?_, ?_⟩
 ·have h : skipP s.data.toList 0 = (s.size : Int) := by simpa [spacesB] using h
  unfold flushP
  by_cases c : s.data.toList = []
  ·rw [if_pos c]; exact set_x q hx
  ·rw [if_neg c, if_pos (by show topP q.o < 0; rw [ho]; decide)]
   show ({ q with x := nob, wr := q.wr || decide (skipP s.data.toList 0 < (s.size : Int)) } : PS) = q
   rw [h, show decide ((s.size : Int) < (s.size : Int)) = false from by simp, Bool.or_false]
   exact set_x q hx
 ·have h : ¬ skipP s.data.toList 0 = (s.size : Int) := by simpa [spacesB] using h
  unfold flushP
  by_cases c : s.data.toList = []
  ·exfalso
   apply h
   rw [c] at hsk hsz ⊢
   have : s.size = 0 := by rw [← hsz]; rfl
   rw [this]; rfl
  ·rw [if_neg c, if_pos (by show topP q.o < 0; rw [ho]; decide)]
   show (q.wr || decide (skipP s.data.toList 0 < (s.size : Int))) = true
   rw [show decide (skipP s.data.toList 0 < (s.size : Int)) = true from by simp; omega, Bool.or_true]
 ·rw [(flush_keeps _).1]; exact ho
 ·unfold flushP
  by_cases c : s.data.toList = []
  ·rw [if_pos c]
  ·rw [if_neg c, if_pos (by show topP q.o < 0; rw [ho]; decide)]
theorem out_end (q : PS) (ho : q.o = []) (t : Tok) (r : List Tok) (h : t.f0 = 5) : Bad ((t :: r).foldl X.stepT q) := by
 rw [List.foldl_cons]
 refine bad_run _ _ ?_
 unfold X.stepT
 rw [if_neg (by omega), if_neg (by omega), if_neg (by omega), if_neg (by omega), if_neg (by omega), if_pos h]
 unfold endP
 simp only
 rw [(flush_keeps q).1, ho, if_pos (Or.inl (by decide))]
theorem out_begin (q : PS) (t : Tok) (r : List Tok) (h : t.f0 = 1) (hb : (flushP q).wr = true ∨ ((flushP q).o = [] ∧ 0 < (flushP q).n.length)) : Bad ((t :: r).foldl X.stepT q) := by
 rw [List.foldl_cons]
 refine bad_run _ _ ?_
 unfold X.stepT
 rw [if_neg (by omega), if_neg (by omega), if_pos h]
 show ((flushP q).wr || (decide (topP (flushP q).o < 0) && decide (0 < (flushP q).n.length))) = true
 rcases hb with hb | ⟨h1, h2⟩
 ·rw [hb]; rfl
 ·rw [h1, show topP [] = -1 from rfl, show decide ((-1 : Int) < 0) = true from rfl, decide_eq_true h2]; simp
theorem lim_tree (q : PS) (hD : Dp q) (hw : q.wr = false) (ho : q.o = []) (hn : 0 < q.n.length) : (if 5000 < q.n.length then (([] : List ByteArray), ([] : List Nd), (18 : Int)) else limR q) = ((treeP q).1.1, (treeP q).1.2, (treeP q).2) := by
 have hT : treeP q = if q.dp = true ∨ 5000 < q.n.length ∨ 1000 < (sortedP (namesOf q)).length then (([], []), 18) else (((sortedP (namesOf q)).map bytesL, treeN q), 0) := by
  unfold treeP
  rw [if_neg (by rw [hw, ho]; simp; exact List.ne_nil_of_length_pos hn)]; rfl
 rw [hT]
 by_cases c : 5000 < q.n.length
 ·rw [if_pos c, if_pos (Or.inr (Or.inl c))]
 ·rw [if_neg c]
  unfold limR
  by_cases c2 : q.dp = true ∨ 1000 < (sortedP (namesOf q)).length
  ·rw [if_pos c2, if_pos]
   rcases c2 with h | h
   ·exact Or.inl h
   ·exact Or.inr (Or.inr h)
  ·rw [if_neg c2, if_neg]
   rintro (h | h | h)
   ·exact c2 (Or.inl h)
   ·exact c h
   ·exact c2 (Or.inr h)
theorem seg_tsize (L : List UInt8) : ∀ (r : List Tok) (a b : Int) (x y : Bool), Seg L a x r b y → Vals r → (tsize r : Int) ≤ 4 * (b - a)
 | [], a, b, x, y, h, _ => by obtain ⟨rfl, _⟩ := h; show ((0 : Nat) : Int) ≤ _; omega
 | t :: r, a, b, x, y, h, hv => by
  obtain ⟨h1, h2, h3, h4, h5, h6⟩ := h
  have := seg_tsize L r _ _ _ _ h6 fun u hu => hv u (List.mem_cons_of_mem _ hu)
  have ht := hv t (List.mem_cons_self ..)
  show (((if t.f0 = 6 then t.f4.size else 0) + tsize r : Nat) : Int) ≤ _
  by_cases c : t.f0 = 6
  ·have := ht c
   rw [if_pos c]; omega
  ·rw [if_neg c]; omega
theorem lexV_tsize (d : ByteArray) : (tsize (lexV d).1 : Int) ≤ 4 * d.size := by
 by_cases h : (lexV d).2 = 0
 ·have := seg_tsize _ _ _ _ _ _ (lexV_seg d h) (lexV_vals d); omega
 ·rw [lexV_bad d h]; show ((0 : Nat) : Int) ≤ _; omega
theorem lexV_len' (d : ByteArray) : (lexV d).1.length ≤ d.size := by
 by_cases h : (lexV d).2 = 0
 ·have := seg_len _ _ _ _ _ _ (lexV_seg d h); omega
 ·rw [lexV_bad d h]; exact Nat.zero_le _
end Go.Proofs.YtlhhhlimjajnlaaGreat.R13
end
section
set_option linter.unusedVariables false
set_option linter.unusedSimpArgs false
namespace Go.Proofs.YtlhhhlimjajnlaaGreat.R13
open Go.RowKit Go.Proofs.YtlhhhlimjajnlaaGreat Go.Proofs.YtlhhhlimjajnlaaGreat.Q Go.Proofs.YtlhhhlimjajnlaaGreat.P11 Go.Proofs.YtlhhhlimjajnlaaGreat.P12 Go.Proofs.YtlhhhlimjajnlaaGreatW.PrintWords Go.Proofs.YtlhhhlimjajnlaaGreat.X Go.Proofs.YtlhhhlimjajnlaaGreat.P13 Go.Proofs.YtlhhhlimjajnlaaGreat.Ck
section
variable {l : List Tok} {q : PS} {o : List Int} {me i : Nat} {name : ByteArray} {t : Tok} {r : List Tok}
theorem tsize_dr : ∀ (l : List Tok) (i : Nat), tsize (l.drop i) ≤ tsize l
 | [], i => by simp
 | t :: r, 0 => Nat.le_refl _
 | t :: r, i + 1 => by
  rw [List.drop_succ_cons]
  have := tsize_dr r i
  show _ ≤ (if t.f0 = 6 then t.f4.size else 0) + tsize r
  omega
theorem drop_lt (hr : l.drop i = t :: r) : i < l.length ∧ rd_T51 l (i : Int) = t ∧ l.drop (i + 1) = r := by
 obtain ⟨e1, e2, e3⟩ := rd_tok l i t r hr
 exact ⟨by omega, e1, e3⟩
theorem fold_one (hr : l.drop i = t :: r) : (l.drop i).foldl X.stepT q = (l.drop (i + 1)).foldl X.stepT (X.stepT q t) := by rw [hr, (drop_lt hr).2.2]; rfl
theorem alt_tag (ha : Alt true (l.drop i)) : ∃ t r, l.drop i = t :: r ∧ (t.f0 = 2 ∨ t.f0 = 3 ∨ t.f0 = 4) ∧ Alt (opens t.f0) (l.drop (i + 1)) := by
 cases hr : l.drop i with
 | nil => rw [hr] at ha; cases ha
 | cons t r =>
  rw [hr] at ha
  obtain ⟨a1, a2, a3⟩ := ha
  refine ⟨t, r, rfl, ?_, by rw [(drop_lt hr).2.2]; exact a3⟩
  have hk : t.f0 = 1 ∨ t.f0 = 2 ∨ t.f0 = 3 ∨ t.f0 = 4 ∨ t.f0 = 5 ∨ t.f0 = 6 ∨ t.f0 = 7 := by omega
  rcases hk with h | h | h | h | h | h | h
  ·rw [h] at a1; exact absurd a1 (by decide)
  ·exact Or.inl h
  ·exact Or.inr (Or.inl h)
  ·exact Or.inr (Or.inr h)
  ·rw [h] at a1; exact absurd a1 (by decide)
  ·rw [h] at a1; exact absurd a1 (by decide)
  ·rw [h] at a1; exact absurd a1 (by decide)
def dupB (q : PS) (me : Nat) (s : ByteArray) : Bool := (q.s.drop (me + 1)).any fun a => a.data.toList == s.data.toList
theorem attr_bad (hI : In q o me name i) (hr : l.drop i = t :: r) (c2 : t.f0 = 2) (hd : dupB q me t.f3 = true) (x : List Nm × Int) : Res l i q o (x.1, x.2, false) := by
 refine ⟨fun h => (by cases h), fun _ => ?_⟩
 rw [fold_one hr]
 refine bad_run _ _ ?_
 have hst : X.stepT q t = attrS q t.f3 t.f4 := by unfold X.stepT; rw [if_neg (by omega), if_neg (by omega), if_neg (by omega), if_pos c2]
 rw [hst]
 show (q.wr || _) = true
 rw [show (topP q.o + 1).toNat = me + 1 by rw [hI.top]; omega, show ((q.s.drop (me + 1)).any fun a => a.data.toList == t.f3.data.toList) = true from hd, Bool.or_true]
theorem attr_ok (hI : In q o me name i) (hr : l.drop i = t :: r) (c2 : t.f0 = 2) (hd : dupB q me t.f3 = false) : ∃ q', In q' o me name (i + 1) ∧ zipN q' = zipN q ++ [⟨⟨2, 0, (me : Int), t.f4⟩, t.f3⟩] ∧ ∀ res, Res l (i + 1) q' o res → Res l i q o res := by
 have hst : X.stepT q t = attrS q t.f3 t.f4 := by unfold X.stepT; rw [if_neg (by omega), if_neg (by omega), if_neg (by omega), if_pos c2]
 have hme : (topP q.o + 1).toNat = me + 1 := by rw [hI.top]; omega
 have hwr : (q.wr || ((q.s.drop (topP q.o + 1).toNat).any fun a => a.data.toList == t.f3.data.toList)) = false := by rw [hme, hI.wr]; exact hd
 have hsm := hI.small
 refine ⟨attrS q t.f3 t.f4, ⟨hI.op, ?_, ?_, ?_, hI.x, hwr, ?_, hI.pos⟩, by rw [← hI.top]; exact zipN_put hI.len _ _ rfl rfl, fun res h => h.from (by omega) (by rw [fold_one hr, hst]) ⟨_, _, rfl, rfl⟩⟩
 ·show (q.s ++ [_]).length = (q.n ++ [_]).length
  rw [List.length_append, List.length_append, hI.len]; rfl
 ·show me < (q.n ++ [_]).length; rw [List.length_append]; have := hI.lt; omega
 ·show (q.s ++ [_]).getD me nob = name; rw [getD_app _ _ _ (by have := hI.lt; have := hI.len; omega)]; exact hI.nm
 ·show (q.n ++ [_]).length ≤ i + 1; rw [List.length_append, List.length_singleton]; omega
theorem tag_ready (hI : In q o me name i) (hr : l.drop i = t :: r) (c3 : t.f0 = 3) : In q o me name (i + 1) ∧ ∀ res, Res l (i + 1) q o res → Res l i q o res := by
 have hst : X.stepT q t = q := by unfold X.stepT; rw [if_neg (by omega), if_neg (by omega), if_neg (by omega), if_neg (by omega), if_neg (by omega), if_neg (by omega)]
 have hsm := hI.small
 exact ⟨⟨hI.op, hI.len, hI.lt, hI.nm, hI.x, hI.wr, by omega, hI.pos⟩, fun res h => h.from (by omega) (by rw [fold_one hr, hst]) ⟨[], [], by simp, by simp⟩⟩
theorem tag_empty (hI : In q o me name i) (hr : l.drop i = t :: r) (c4 : t.f0 = 4) (ha : Alt false (l.drop (i + 1))) : Res l i q o (zipN q, ((i + 1 : Nat) : Int), true) := by
 have hst : X.stepT q t = { q with o := o } := by
  unfold X.stepT
  rw [if_neg (by omega), if_neg (by omega), if_neg (by omega), if_neg (by omega), if_pos c4, hI.close, if_pos]
  rw [hI.top, Int.toNat_natCast]
  show name.data.toList = (q.s.getD me nob).data.toList
  rw [hI.nm]
 have hil := (drop_lt hr).1
 have hsm := hI.small
 exact ⟨fun _ => ⟨i + 1, { q with o := o }, rfl, by omega, by omega, by rw [fold_one hr, hst], zipN_same rfl rfl, rfl, hI.x, hI.wr, hI.len, by show q.n.length ≤ i + 1; omega, ⟨[], [], by simp, by simp⟩, ha⟩, fun h => (by cases h)⟩
theorem cont (hI : In q o me name i) (ha : Alt false (l.drop i)) (hi : i ≤ l.length) : ∃ (s : ByteArray) (c : Nat) (p : PS), textsL (l.drop i) nob = (s, c) ∧ i + c ≤ l.length ∧ In p o me name (i + c) ∧ zipN p = (if s.data.toList = [] then zipN q else zipN q ++ [⟨⟨3, -1, (me : Int), s⟩, nob⟩]) ∧
 ((l.length = i + c ∧ ∀ x : List Nm × Int, Res l i q o (x.1, x.2, false)) ∨
 (∃ t r, l.drop (i + c) = t :: r ∧ t.f0 = 5 ∧ Res l i q o (zipN p, ((i + c + 1 : Nat) : Int), t.f3.toList == name.toList)) ∨
 (∃ t r, l.drop (i + c) = t :: r ∧ t.f0 = 1 ∧ Alt false (l.drop (i + c)) ∧ ∀ res, Res l (i + c) p p.o res → (res.2.2 = false → ∀ x : List Nm × Int, Res l i q o (x.1, x.2, false)) ∧ (res.2.2 = true → (((i + c : Nat) : Int)) < res.2.1 → ∃ (j : Nat) (q' : PS), res.2.1 = (j : Int) ∧ i < j ∧ j ≤ l.length ∧ In q' o me name j ∧ zipN q' = res.1 ∧ Alt false (l.drop j) ∧ ∀ res', Res l j q' o res' → Res l i q o res'))) := by
 have hle := textsL_le (l.drop i) nob
 have hsome := textsL_some (l.drop i) nob
 have hmac := texts_machine (l.drop i) q
 obtain ⟨ha1, ha2⟩ := texts_alt (l.drop i) nob ha
 rw [hI.x] at hmac
 rw [List.drop_drop] at hmac ha1 ha2
 rw [List.length_drop] at hle
 obtain ⟨s, hs⟩ : ∃ s, (textsL (l.drop i) nob).1 = s := ⟨_, rfl⟩
 obtain ⟨c, hc⟩ : ∃ c, (textsL (l.drop i) nob).2 = c := ⟨_, rfl⟩
 have hsc : textsL (l.drop i) nob = (s, c) := by rw [← hs, ← hc]
 rw [hs, hc] at hmac
 rw [hc] at hle hsome ha1 ha2
 rw [hs] at hsome
 have hs0 : ¬ s.data.toList = [] → i + 1 ≤ i + c := by
  intro h
  rcases Nat.eq_zero_or_pos c with h0 | h0
  ·rw [hsome h0] at h; exact absurd rfl h
  ·omega
 obtain ⟨hP, hPz, tn, ts, hPn, hPs⟩ := hI.flush s (i + c) (by omega) hs0
 have hpe := end_flush { q with x := s }
 have hpb := begin_flush { q with x := s }
 generalize hp : flushP { q with x := s } = p at *
 refine ⟨s, c, p, hsc, by omega, hP, hPz, ?_⟩
 cases hr : l.drop (i + c) with
 | nil =>
  have hge : l.length ≤ i + c := by
   rcases Nat.lt_or_ge (i + c) l.length with h | h
   ·rw [List.drop_eq_getElem_cons h] at hr; cases hr
   ·exact h
  refine .inl ⟨by omega, fun x => ⟨fun h => (by cases h), fun _ => ?_⟩⟩
  rw [hmac, hr]
  right
  show ¬ q.o = []
  rw [hI.op]; simp
 | cons t r =>
  obtain ⟨hil, e1, e3⟩ := drop_lt hr
  rw [hr] at ha1 ha2 hmac
  have hal := ha1
  obtain ⟨b1, b2, b3⟩ := ha1
  rcases ha2 t r rfl with c1 | c5
  ·have hst : X.stepT { q with x := s } t = X.stepT p t := by
    unfold X.stepT
    rw [if_neg (by omega), if_neg (by omega), if_pos c1, if_neg (by omega), if_neg (by omega), if_pos c1, hpb]
   have hfold : (l.drop i).foldl X.stepT q = (l.drop (i + c)).foldl X.stepT p := by rw [hmac, hr, List.foldl_cons, List.foldl_cons, hst]
   refine .inr (.inr ⟨t, r, rfl, c1, hal, fun res r2 => ⟨fun hf x => ⟨fun h => (by cases h), fun _ => by rw [hfold]; exact r2.2 hf⟩, fun ht hlt => ?_⟩⟩)
   obtain ⟨j, q', h1, h2, h3, h4, h5, h6, h7, h8, h9, h10, ⟨un, us, h11, h12⟩, h13⟩ := r2.1 ht
   rw [h1] at hlt
   refine ⟨j, q', h1, by omega, h3, ⟨by rw [h6, hP.op], h9, ?_, ?_, h7, h8, h10, hI.pos⟩, h5, h13, fun res' s2 => s2.from (by omega) (by rw [hfold, h4]) ⟨tn ++ un, ts ++ us, by rw [h11, hPn, List.append_assoc], by rw [h12, hPs, List.append_assoc]⟩⟩
   ·rw [h11, List.length_append]; have := hP.lt; omega
   ·rw [h12, getD_app _ _ _ (by have := hP.lt; have := hP.len; omega)]; exact hP.nm
  ·have hst : X.stepT { q with x := s } t = if name.data.toList = t.f3.data.toList then { p with o := o } else { p with wr := true } := by
    unfold X.stepT
    rw [if_neg (by omega), if_neg (by omega), if_neg (by omega), if_neg (by omega), if_neg (by omega), if_pos c5, ← hpe, hP.close]
   have hfold : (l.drop i).foldl X.stepT q = (l.drop (i + c + 1)).foldl X.stepT (X.stepT { q with x := s } t) := by rw [hmac, e3]; rfl
   refine .inr (.inl ⟨t, r, rfl, c5, fun h => ?_, fun h => ?_⟩)
   ·have h : t.f3.toList = name.toList := by simpa using h
    rw [Lib.toList_data, Lib.toList_data] at h
    rw [if_pos h.symm] at hst
    rw [hst] at hfold
    exact ⟨i + c + 1, { p with o := o }, rfl, by omega, by omega, hfold, zipN_same rfl rfl, rfl, hP.x, hP.wr, hP.len, by show p.n.length ≤ _; have := hP.small; omega, ⟨tn, ts, hPn, hPs⟩, by rw [e3]; rw [c5] at b3; exact b3⟩
   ·have h : ¬ t.f3.toList = name.toList := by simpa using h
    rw [Lib.toList_data, Lib.toList_data] at h
    rw [if_neg fun e => h e.symm] at hst
    rw [hfold, hst]
    exact bad_run _ _ rfl
theorem elem (p : PS) (hr : l.drop i = t :: r) (c1 : t.f0 = 1) (hx : p.x = nob) (hwr : p.wr = false) (hroot : p.o = [] → p.n = []) (hpos : ∀ z, z ∈ p.o → 0 ≤ z) (hlen : p.s.length = p.n.length) (hsm : p.n.length ≤ i) :
 ∃ q, In q p.o p.n.length t.f3 (i + 1) ∧ zipN q = zipN p ++ [⟨⟨1, 0, topP p.o, nob⟩, t.f3⟩] ∧ ∀ res, Res l (i + 1) q p.o res → Res l i p p.o res ∧ (res.2.2 = true → (i : Int) < res.2.1 ∧ 0 < res.1.length) := by
 have hst : X.stepT p t = beginP p t.f3 := by unfold X.stepT; rw [if_neg (by omega), if_neg (by omega), if_pos c1]
 have hfl := flush_no p hx
 have hnw : (p.wr || (decide (topP p.o < 0) && decide (0 < p.n.length))) = false := by
  rw [hwr]
  by_cases ho : p.o = []
  ·rw [hroot ho]; simp
  ·have : 0 ≤ topP p.o := hpos _ (topP_in _ ho)
   simp; omega
 have hI : In (beginP p t.f3) p.o p.n.length t.f3 (i + 1) := by
  unfold beginP
  rw [hfl]
  refine ⟨rfl, ?_, ?_, ?_, hx, hnw, ?_, hpos⟩
  ·show (p.s ++ [_]).length = (p.n ++ [_]).length
   rw [List.length_append, List.length_append, hlen]; rfl
  ·show p.n.length < (p.n ++ [_]).length; rw [List.length_append, List.length_singleton]; omega
  ·show (p.s ++ [t.f3]).getD p.n.length nob = t.f3
   rw [List.getD_eq_getElem?_getD, List.getElem?_append_right (by omega), hlen, Nat.sub_self]; rfl
  ·show (p.n ++ [_]).length ≤ i + 1; rw [List.length_append, List.length_singleton]; omega
 have hext : ∃ tn ts, (beginP p t.f3).n = p.n ++ tn ∧ (beginP p t.f3).s = p.s ++ ts := by
  unfold beginP
  rw [hfl]
  exact ⟨_, _, rfl, rfl⟩
 refine ⟨beginP p t.f3, hI, ?_, fun res r2 => ⟨r2.from (by omega) (by rw [fold_one hr, ← hst]) hext, fun ht => ?_⟩⟩
 ·unfold beginP
  rw [hfl]
  exact zipN_put hlen _ _ rfl rfl
 ·obtain ⟨j, q', h1, h2, -, -, h5, -, -, -, h9, -, ⟨tn, ts, h11, -⟩, -⟩ := r2.1 ht
  refine ⟨by rw [h1]; omega, ?_⟩
  rw [← h5, zipN_len h9, h11, List.length_append]
  have := hI.lt; omega
theorem dup_step {k : Nat} (h : k < q.s.length) (s : ByteArray) : ((q.s.drop k).any fun a => a.data.toList == s.data.toList) = ((q.s.getD k nob).data.toList == s.data.toList || ((q.s.drop (k + 1)).any fun a => a.data.toList == s.data.toList)) := by
 rw [List.drop_eq_getElem_cons h, List.any_cons, List.getD_eq_getElem?_getD, List.getElem?_eq_getElem h]; rfl
end
end Go.Proofs.YtlhhhlimjajnlaaGreat.R13
end
