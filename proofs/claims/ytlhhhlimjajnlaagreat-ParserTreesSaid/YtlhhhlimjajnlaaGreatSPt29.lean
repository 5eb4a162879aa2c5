/- Parts of the proof of parserTrees_holds, kept and merged by a program of mine (wip/tools/slim.py) out of my texts: R13a R13b R13c -/
import Derived.Test.YtlhhhlimjajnlaaGreatSPt0
import Derived.Test.YtlhhhlimjajnlaaGreatSPt27
import Derived.Test.YtlhhhlimjajnlaaGreatSPt26
import Derived.Test.YtlhhhlimjajnlaaGreatSPt18
section
set_option linter.unusedVariables false
set_option linter.unusedSimpArgs false
namespace Go.Proofs.YtlhhhlimjajnlaaGreat.R13
open Go.RowKit Go.Proofs.YtlhhhlimjajnlaaGreat Go.Proofs.YtlhhhlimjajnlaaGreat.Q Go.Proofs.YtlhhhlimjajnlaaGreat.P11 Go.Proofs.YtlhhhlimjajnlaaGreat.P12 Go.Proofs.YtlhhhlimjajnlaaGreatW.PrintWords Go.Proofs.YtlhhhlimjajnlaaGreat.X Go.Proofs.YtlhhhlimjajnlaaGreat.P13 Go.Proofs.YtlhhhlimjajnlaaGreat.Ck
abbrev Nm := S104
abbrev nob : ByteArray := ⟨#[]⟩
theorem rwr (n : Int) (h0 : -9223372036854775808 ≤ n) (h1 : n ≤ 9223372036854775807) : wrap64 n = n := by unfold wrap64; omega
theorem wr_up (i : Nat) (h : i ≤ 9000000000000000000) : wrap64 ((i : Int) + 1) = ((i + 1 : Nat) : Int) := by rw [rwr _ (by omega) (by omega)]; omega
theorem rd_tok (l : List Tok) (i : Nat) (t : Tok) (r : List Tok) (h : l.drop i = t :: r) : rd_T51 l (i : Int) = t ∧ (i : Int) < (l.length : Int) ∧ l.drop (i + 1) = r := by
 have hi : i < l.length := by
  rcases Nat.lt_or_ge i l.length with c | c
  ·exact c
  ·rw [List.drop_eq_nil_of_le c] at h; cases h
 rw [List.drop_eq_getElem_cons hi] at h
 injection h with h1 h2
 refine ⟨?_, by omega, h2⟩
 unfold rd_T51
 rw [Int.toNat_natCast, List.getD_eq_getElem?_getD, List.getElem?_eq_getElem hi, h1]; rfl
def Alt : Bool → List Tok → Prop
 | x, [] => x = false
 | x, t :: r => x = inTag t.f0 ∧ (1 ≤ t.f0 ∧ t.f0 ≤ 7) ∧ Alt (opens t.f0) r
def textsL : List Tok → ByteArray → ByteArray × Nat
 | [], s => (s, 0)
 | t :: r, s => if t.f0 = 6 then ((textsL r (s ++ t.f4)).1, (textsL r (s ++ t.f4)).2 + 1) else if t.f0 = 7 then ((textsL r s).1, (textsL r s).2 + 1) else (s, 0)
def tsize : List Tok → Nat
 | [] => 0
 | t :: r => (if t.f0 = 6 then t.f4.size else 0) + tsize r
theorem textsL_le : ∀ (r : List Tok) (s : ByteArray), (textsL r s).2 ≤ r.length
 | [], s => Nat.le_refl _
 | t :: r, s => by
  unfold textsL
  split
  ·have := textsL_le r (s ++ t.f4); rw [List.length_cons]; omega
  split
  ·have := textsL_le r s; rw [List.length_cons]; omega
  ·exact Nat.zero_le _
theorem textsL_some : ∀ (r : List Tok) (s : ByteArray), (textsL r s).2 = 0 → (textsL r s).1 = s
 | [], s, _ => rfl
 | t :: r, s, h => by
  unfold textsL at h ⊢
  split
  ·rename_i c; rw [if_pos c] at h; exact absurd h (by simp)
  ·rename_i c
   rw [if_neg c] at h
   split
   ·rename_i c2; rw [if_pos c2] at h; exact absurd h (by simp)
   ·rfl
theorem texts_machine : ∀ (r : List Tok) (p : PS), r.foldl X.stepT p = (r.drop (textsL r p.x).2).foldl X.stepT { p with x := (textsL r p.x).1 }
 | [], p => rfl
 | t :: r, p => by
  rw [List.foldl_cons]
  unfold textsL
  by_cases c6 : t.f0 = 6
  ·rw [if_pos c6, List.drop_succ_cons, show X.stepT p t = { p with x := p.x ++ t.f4 } from by unfold X.stepT; rw [if_neg (by omega), if_pos c6]]
   exact texts_machine r { p with x := p.x ++ t.f4 }
  rw [if_neg c6]
  by_cases c7 : t.f0 = 7
  ·rw [if_pos c7, List.drop_succ_cons, show X.stepT p t = p from by unfold X.stepT; rw [if_pos c7]]
   exact texts_machine r p
  ·rw [if_neg c7]; rfl
theorem texts_alt : ∀ (r : List Tok) (s : ByteArray), Alt false r → Alt false (r.drop (textsL r s).2) ∧ ∀ t r', r.drop (textsL r s).2 = t :: r' → t.f0 = 1 ∨ t.f0 = 5
 | [], s, h => ⟨h, fun t r' h => by cases h⟩
 | t :: r, s, h => by
  obtain ⟨h1, h2, h3⟩ := h
  unfold textsL
  by_cases c6 : t.f0 = 6
  ·rw [if_pos c6, List.drop_succ_cons]
   rw [c6] at h3
   exact texts_alt r (s ++ t.f4) h3
  rw [if_neg c6]
  by_cases c7 : t.f0 = 7
  ·rw [if_pos c7, List.drop_succ_cons]
   rw [c7] at h3
   exact texts_alt r s h3
  ·rw [if_neg c7]
   refine ⟨⟨h1, h2, h3⟩, fun t' r' he => ?_⟩
   have he : t :: r = t' :: r' := he
   injection he with he _
   subst he
   have hk : t.f0 = 1 ∨ t.f0 = 2 ∨ t.f0 = 3 ∨ t.f0 = 4 ∨ t.f0 = 5 := by omega
   rcases hk with h | h | h | h | h
   ·exact Or.inl h
   ·rw [h] at h1; exact absurd h1 (by decide)
   ·rw [h] at h1; exact absurd h1 (by decide)
   ·rw [h] at h1; exact absurd h1 (by decide)
   ·exact Or.inr h
theorem texts_l0 (l : List Tok) (hl : l.length ≤ 1000000) : ∀ (r : List Tok) (i : Nat) (s : ByteArray), l.drop i = r → i ≤ l.length → s.size + tsize r ≤ 9000000000000000000 →
 Ev (fun k => R3_texts.l0 k l i s) ((textsL r s).1, ((i + (textsL r s).2 : Nat) : Int))
 | [], i, s, hr, hi, _ => by
  have hge : l.length ≤ i := by
   rcases Nat.lt_or_ge i l.length with c | c
   ·rw [List.drop_eq_getElem_cons c] at hr; cases hr
   ·exact c
  refine ⟨2, fun k hk => ?_⟩
  obtain ⟨k, rfl⟩ : ∃ j, k = j + 2 := ⟨k - 2, by omega⟩
  show R3_texts.l0 (k + 2) l i s = _
  rw [R3_texts.l0, if_neg (by omega), R3_texts.j1, if_neg (by decide)]; rfl
 | t :: r, i, s, hr, hi, hs => by
  obtain ⟨e1, e2, e3⟩ := rd_tok l i t r hr
  have hw := wr_up i (by omega)
  unfold tsize at hs
  by_cases c6 : t.f0 = 6
  ·rw [if_pos c6] at hs
   obtain ⟨K, hK⟩ := texts_l0 l hl r (i + 1) (s ++ t.f4) e3 (by omega) (by rw [ByteArray.size_append]; omega)
   refine ⟨K + 2, fun k hk => ?_⟩
   obtain ⟨k, rfl⟩ : ∃ j, k = j + 2 := ⟨k - 2, by omega⟩
   have hK := hK k (by omega)
   show R3_texts.l0 (k + 2) l i s = _
   rw [R3_texts.l0, if_pos e2, if_pos (by omega), e1, if_pos c6, R3_texts.j1, if_pos rfl, if_pos (by omega), if_pos e2, e1, if_pos c6, if_pos (by omega), hw]
   unfold textsL
   rw [if_pos c6]
   rw [show i + ((textsL r (s ++ t.f4)).2 + 1) = i + 1 + (textsL r (s ++ t.f4)).2 from by omega]
   exact hK
  rw [if_neg c6] at hs
  by_cases c7 : t.f0 = 7
  ·obtain ⟨K, hK⟩ := texts_l0 l hl r (i + 1) s e3 (by omega) (by omega)
   refine ⟨K + 2, fun k hk => ?_⟩
   obtain ⟨k, rfl⟩ : ∃ j, k = j + 2 := ⟨k - 2, by omega⟩
   have hK := hK k (by omega)
   show R3_texts.l0 (k + 2) l i s = _
   rw [R3_texts.l0, if_pos e2, if_pos (by omega), e1, if_neg c6, c7, show ((7 : Int) == 7) = true from rfl, R3_texts.j1, if_pos rfl, if_pos (by omega), if_pos e2, e1, if_neg c6, hw]
   unfold textsL
   rw [if_neg c6, if_pos c7]
   rw [show i + ((textsL r s).2 + 1) = i + 1 + (textsL r s).2 from by omega]
   exact hK
  ·refine ⟨2, fun k hk => ?_⟩
   obtain ⟨k, rfl⟩ : ∃ j, k = j + 2 := ⟨k - 2, by omega⟩
   show R3_texts.l0 (k + 2) l i s = _
   rw [R3_texts.l0, if_pos e2, if_pos (by omega), e1, if_neg c6, show (t.f0 == 7) = false from by simpa using c7, R3_texts.j1, if_neg (by decide)]
   unfold textsL
   rw [if_neg c6, if_neg c7]; rfl
theorem texts_f (l : List Tok) (hl : l.length ≤ 1000000) (i : Nat) (hi : i ≤ l.length) (hs : tsize (l.drop i) ≤ 9000000000000000000) :
 Ev (fun k => R3_texts.f k l i) ((textsL (l.drop i) nob).1, ((i + (textsL (l.drop i) nob).2 : Nat) : Int)) :=
 texts_l0 l hl _ i nob rfl hi (by rw [show nob.size = 0 from rfl]; omega)
def zipN (p : PS) : List Nm := (p.n.zip p.s).map fun c => ⟨c.1, c.2⟩
theorem zipN_put {p q : PS} (h : p.s.length = p.n.length) (m : Nd) (s : ByteArray) (hn : q.n = p.n ++ [m]) (hs : q.s = p.s ++ [s]) : zipN q = zipN p ++ [⟨m, s⟩] := by
 unfold zipN
 rw [hn, hs, List.zip_append h.symm, List.map_append]; rfl
theorem zipN_len {p : PS} (h : p.s.length = p.n.length) : (zipN p).length = p.n.length := by
 unfold zipN; rw [List.length_map, List.length_zip, h, Nat.min_self]
theorem zipN_same {p q : PS} (hn : q.n = p.n) (hs : q.s = p.s) : zipN q = zipN p := by unfold zipN; rw [hn, hs]
theorem zipN_at {p : PS} (h : p.s.length = p.n.length) (i : Nat) (hi : i < p.n.length) : rd_T104 (zipN p) (i : Int) = ⟨p.n.getD i Ck.nz, p.s.getD i nob⟩ := by
 unfold rd_T104 zipN
 rw [Int.toNat_natCast]
 simp only [List.getD_eq_getElem?_getD, List.getElem?_map]
 rw [List.getElem?_eq_getElem (show i < (p.n.zip p.s).length by rw [List.length_zip]; omega), List.getElem?_eq_getElem hi, List.getElem?_eq_getElem (show i < p.s.length by omega)]
 simp
def Bad (p : PS) : Prop := p.wr = true ∨ ¬ p.o = []
theorem bad_run (r : List Tok) (p : PS) (h : p.wr = true) : Bad (r.foldl X.stepT p) := by
 left
 cases hw : (r.foldl X.stepT p).wr with
 | true => rfl
 | false => rw [wr_run r hw] at h; cases h
theorem set_x (q : PS) (h : q.x = nob) : ({ q with x := ⟨#[]⟩ } : PS) = q := by cases q; simp only at h; subst h; rfl
theorem flush_no (p : PS) (h : p.x = nob) : flushP p = p := by
 unfold flushP
 rw [h, if_pos rfl]
 exact set_x p h
theorem flush_x (p : PS) : (flushP p).x = nob := (flush_keeps p).2.1
theorem flush_twice (p : PS) : flushP (flushP p) = flushP p := flush_no _ (flush_x p)
theorem begin_flush (p : PS) (name : ByteArray) : beginP (flushP p) name = beginP p name := by unfold beginP; rw [flush_twice]
def Res (l : List Tok) (i : Nat) (q : PS) (o : List Int) (r : List Nm × Int × Bool) : Prop :=
 (r.2.2 = true → ∃ (j : Nat) (q' : PS), r.2.1 = (j : Int) ∧ i ≤ j ∧ j ≤ l.length ∧ (l.drop i).foldl X.stepT q = (l.drop j).foldl X.stepT q' ∧ zipN q' = r.1 ∧ q'.o = o ∧ q'.x = nob ∧ q'.wr = false ∧ q'.s.length = q'.n.length ∧ q'.n.length ≤ j ∧ (∃ tn ts, q'.n = q.n ++ tn ∧ q'.s = q.s ++ ts) ∧ Alt false (l.drop j)) ∧
 (r.2.2 = false → Bad ((l.drop i).foldl X.stepT q))
theorem Res.from {l : List Tok} {i i2 : Nat} {q q2 : PS} {o : List Int} {r : List Nm × Int × Bool} (h : Res l i2 q2 o r) (hi : i ≤ i2) (hm : (l.drop i).foldl X.stepT q = (l.drop i2).foldl X.stepT q2) (hn : ∃ tn ts, q2.n = q.n ++ tn ∧ q2.s = q.s ++ ts) : Res l i q o r := by
 obtain ⟨h1, h2⟩ := h
 refine ⟨fun ht => ?_, fun hf => by rw [hm]; exact h2 hf⟩
 obtain ⟨j, q', g1, g2, g3, g4, g5, g6, g7, g8, g9, g10, ⟨tn, ts, g11, g12⟩, g13⟩ := h1 ht
 obtain ⟨un, us, k1, k2⟩ := hn
 exact ⟨j, q', g1, by omega, g3, by rw [hm, g4], g5, g6, g7, g8, g9, g10, ⟨un ++ tn, us ++ ts, by rw [g11, k1, List.append_assoc], by rw [g12, k2, List.append_assoc]⟩, g13⟩
structure In (q : PS) (o : List Int) (me : Nat) (name : ByteArray) (i : Nat) : Prop where
 op : q.o = o ++ [(me : Int)]
 len : q.s.length = q.n.length
 lt : me < q.n.length
 nm : q.s.getD me nob = name
 x : q.x = nob
 wr : q.wr = false
 small : q.n.length ≤ i
 pos : ∀ z, z ∈ o → 0 ≤ z
theorem In.top {q : PS} {o : List Int} {me : Nat} {name : ByteArray} {i : Nat} (h : In q o me name i) : topP q.o = (me : Int) := by rw [h.op]; unfold topP; rw [List.getLast?_concat]; rfl
theorem getD_app (a b : List ByteArray) (i : Nat) (h : i < a.length) : (a ++ b).getD i nob = a.getD i nob := by
 rw [List.getD_eq_getElem?_getD, List.getD_eq_getElem?_getD, List.getElem?_append_left h]
theorem In.flush {q : PS} {o : List Int} {me : Nat} {name : ByteArray} {i : Nat} (h : In q o me name i) (s : ByteArray) (j : Nat) (hj : i ≤ j) (hs : ¬ s.data.toList = [] → i + 1 ≤ j) : In (flushP { q with x := s }) o me name j ∧ zipN (flushP { q with x := s }) = (if s.data.toList = [] then zipN q else zipN q ++ [⟨⟨3, -1, (me : Int), s⟩, nob⟩]) ∧ ∃ tn ts, (flushP { q with x := s }).n = q.n ++ tn ∧ (flushP { q with x := s }).s = q.s ++ ts := by
 have ht := h.top
 obtain ⟨h1, h2, h3, h4, h5, h6, h7, h8⟩ := h
 unfold flushP
 by_cases c : s.data.toList = []
 ·rw [if_pos c, if_pos c]
  exact ⟨⟨h1, h2, h3, h4, rfl, h6, by show q.n.length ≤ j; omega, h8⟩, rfl, [], [], by simp, by simp⟩
 ·rw [if_neg c, if_neg c, if_neg (by show ¬ topP q.o < 0; omega)]
  have hz : zipN (putP { { q with x := s } with x := ⟨#[]⟩ } 3 (-1) s ⟨#[]⟩) = zipN q ++ [⟨⟨3, -1, (me : Int), s⟩, nob⟩] := by
   rw [← ht]; exact zipN_put h2 _ _ rfl rfl
  have := hs c
  refine ⟨⟨h1, ?_, ?_, ?_, rfl, h6, ?_, h8⟩, hz, _, _, rfl, rfl⟩
  ·show (q.s ++ [_]).length = (q.n ++ [_]).length
   rw [List.length_append, List.length_append, h2]; rfl
  ·show me < (q.n ++ [_]).length; rw [List.length_append]; omega
  ·show (q.s ++ [_]).getD me nob = name; rw [getD_app _ _ _ (by omega)]; exact h4
  ·show (q.n ++ [_]).length ≤ j; rw [List.length_append, List.length_singleton]; omega
theorem end_flush (p : PS) (name : ByteArray) : endP (flushP p) name = endP p name := by unfold endP; rw [flush_twice]
theorem In.close {q : PS} {o : List Int} {me : Nat} {name : ByteArray} {i : Nat} (h : In q o me name i) (t : ByteArray) : endP q t = if name.data.toList = t.data.toList then { q with o := o } else { q with wr := true } := by
 unfold endP
 simp only
 rw [flush_no q h.x, h.top]
 by_cases c : name.data.toList = t.data.toList
 ·rw [if_pos c, if_neg]
  ·rw [h.op, List.dropLast_concat]
  ·rintro (c' | c')
   ·omega
   ·apply c'
    rw [Int.toNat_natCast]
    show (q.s.getD me nob).data.toList = _
    rw [h.nm]; exact c
 ·rw [if_neg c, if_pos]
  right
  rw [Int.toNat_natCast]
  show ¬ (q.s.getD me nob).data.toList = _
  rw [h.nm]; exact c
end Go.Proofs.YtlhhhlimjajnlaaGreat.R13
end
section
set_option linter.unusedVariables false
set_option linter.unusedSimpArgs false
namespace Go.Proofs.YtlhhhlimjajnlaaGreat.R13
open Go.RowKit Go.Proofs.YtlhhhlimjajnlaaGreat Go.Proofs.YtlhhhlimjajnlaaGreat.Q Go.Proofs.YtlhhhlimjajnlaaGreat.P11 Go.Proofs.YtlhhhlimjajnlaaGreat.P12 Go.Proofs.YtlhhhlimjajnlaaGreatW.PrintWords Go.Proofs.YtlhhhlimjajnlaaGreat.X Go.Proofs.YtlhhhlimjajnlaaGreat.P13 Go.Proofs.YtlhhhlimjajnlaaGreat.Ck
theorem ev_now {α : Type} {g : Nat → Option α} {r : α} (n : Nat) (h : ∀ k, g (k + n) = some r) : Ev g r := ⟨n, fun k hk => by rw [show k = (k - n) + n from by omega]; exact h _⟩
theorem ev_up {α : Type} {g f : Nat → Option α} {r : α} (n : Nat) (h : ∀ k, g (k + n) = f k) (e : Ev f r) : Ev g r := by
 obtain ⟨K, hK⟩ := e
 refine ⟨K + n, fun k hk => ?_⟩
 rw [show k = (k - n) + n from by omega, h]
 exact hK _ (by omega)
section
variable (l : List Tok) (hl : l.length ≤ 2900) (hts : tsize l ≤ 9000000000000000000)
theorem tsize_drop : ∀ (l : List Tok) (i : Nat), tsize (l.drop i) ≤ tsize l
 | [], i => by simp
 | t :: r, 0 => Nat.le_refl _
 | t :: r, i + 1 => by
  rw [List.drop_succ_cons]
  have := tsize_drop r i
  show _ ≤ (if t.f0 = 6 then t.f4.size else 0) + tsize r
  omega
theorem l1_yes (q : PS) (hq : q.s.length = q.n.length) (hqs : q.n.length ≤ 1000000) (i : Nat) (t : Tok) (r : List Tok) (hr : l.drop i = t :: r) (deep me : Int) (name : ByteArray) (d : Nat) : ∀ j : Nat, q.n.length - j = d → j ≤ q.n.length → ((q.s.drop j).any fun a => a.data.toList == t.f3.data.toList) = true →
 Ev (fun k => R3_element.l1 k l i (zipN q) deep me name j) (zipN q, (i : Int), false) := by
 obtain ⟨e1, e2, e3⟩ := rd_tok l i t r hr
 have hz := zipN_len hq
 induction d with
 | zero =>
  intro j hd hj ha
  rw [List.drop_eq_nil_of_le (by omega)] at ha; cases ha
 | succ d ih =>
  intro j hd hj ha
  have hjl : j < q.s.length := by omega
  have hB : j ≤ 9000000000000000000 := by omega
  have g1 : (j : Int) < ((zipN q).length : Int) := by omega
  have g2 : (0 : Int) ≤ (j : Int) := by omega
  have g3 : (0 : Int) ≤ (i : Int) := by omega
  rw [List.drop_eq_getElem_cons hjl, List.any_cons, Bool.or_eq_true] at ha
  have hat := zipN_at hq j (by omega)
  have hsj : q.s.getD j nob = q.s[j] := by rw [List.getD_eq_getElem?_getD, List.getElem?_eq_getElem hjl]; rfl
  by_cases c : q.s[j].data.toList = t.f3.data.toList
  ·refine ev_now 1 fun k => ?_
   show R3_element.l1 (k + 1) l i (zipN q) deep me name j = _
   rw [R3_element.l1, if_pos g1, if_pos g2, if_pos g3, if_pos e2, e1, hat, hsj, Lib.toList_data, Lib.toList_data, if_pos c]
  ·refine ev_up 1 (fun k => ?_) (ih (j + 1) (by omega) (by omega) (ha.resolve_left fun h => c (by simpa using h)))
   show R3_element.l1 (k + 1) l i (zipN q) deep me name j = _
   rw [R3_element.l1, if_pos g1, if_pos g2, if_pos g3, if_pos e2, e1, hat, hsj, Lib.toList_data, Lib.toList_data, if_neg c, wr_up j hB]
theorem l1_no (hl : l.length ≤ 2900) (q : PS) (hq : q.s.length = q.n.length) (hqs : q.n.length ≤ 1000000) (i : Nat) (t : Tok) (r : List Tok) (hr : l.drop i = t :: r) (deep me : Int) (name : ByteArray) (res : List Nm × Int × Bool)
 (hE : Ev (fun k => R3_element.l0 k l ((i + 1 : Nat) : Int) (zipN q ++ [⟨⟨2, 0, me, t.f4⟩, t.f3⟩]) deep me name) res) (d : Nat) : ∀ j : Nat, q.n.length - j = d → j ≤ q.n.length → ((q.s.drop j).any fun a => a.data.toList == t.f3.data.toList) = false →
 Ev (fun k => R3_element.l1 k l i (zipN q) deep me name j) res := by
 obtain ⟨e1, e2, e3⟩ := rd_tok l i t r hr
 have hz := zipN_len hq
 have g3 : (0 : Int) ≤ (i : Int) := by omega
 induction d with
 | zero =>
  intro j hd hj ha
  have g1 : ¬ (j : Int) < ((zipN q).length : Int) := by omega
  have g4 : (zipN q).length < 2513169434916 := by omega
  have hB : i ≤ 9000000000000000000 := by omega
  refine ev_up 1 (fun k => ?_) hE
  show R3_element.l1 (k + 1) l i (zipN q) deep me name j = _
  rw [R3_element.l1, if_neg g1, if_pos g3, if_pos e2, if_pos g4, e1, wr_up i hB]
 | succ d ih =>
  intro j hd hj ha
  have hjl : j < q.s.length := by omega
  have hB : j ≤ 9000000000000000000 := by omega
  have g1 : (j : Int) < ((zipN q).length : Int) := by omega
  have g2 : (0 : Int) ≤ (j : Int) := by omega
  rw [List.drop_eq_getElem_cons hjl, List.any_cons, Bool.or_eq_false_iff] at ha
  have hat := zipN_at hq j (by omega)
  have hsj : q.s.getD j nob = q.s[j] := by rw [List.getD_eq_getElem?_getD, List.getElem?_eq_getElem hjl]; rfl
  have c : ¬ q.s[j].data.toList = t.f3.data.toList := by simpa using ha.1
  refine ev_up 1 (fun k => ?_) (ih (j + 1) (by omega) (by omega) ha.2)
  show R3_element.l1 (k + 1) l i (zipN q) deep me name j = _
  rw [R3_element.l1, if_pos g1, if_pos g2, if_pos g3, if_pos e2, e1, hat, hsj, Lib.toList_data, Lib.toList_data, if_neg c, wr_up j hB]
def C (m : Nat) : Prop := ∀ (i : Nat) (q : PS) (o : List Int) (me : Nat) (name : ByteArray) (deep : Nat), l.length - i ≤ m → i ≤ l.length → In q o me name i → Alt false (l.drop i) → deep + 1 ≤ i →
 ∃ res, Ev (fun k => R3_element.l2 k l i (zipN q) deep me name) res ∧ Res l i q o res
def E (m : Nat) : Prop := ∀ (i : Nat) (p : PS) (deep : Nat) (t : Tok) (r : List Tok), l.drop i = t :: r → t.f0 = 1 → Alt false (l.drop i) → l.length - i ≤ m → p.x = nob → p.wr = false → (p.o = [] → p.n = []) → (∀ z, z ∈ p.o → 0 ≤ z) → p.s.length = p.n.length → p.n.length ≤ i → deep ≤ i →
 ∃ res, Ev (fun k => R3_element.f k l i (topP p.o) (zipN p) deep) res ∧ Res l i p p.o res ∧ (res.2.2 = true → (i : Int) < res.2.1 ∧ 0 < res.1.length)
theorem attrs_e (hl : l.length ≤ 2900) (m : Nat) (hC : C l m) (o : List Int) (me : Nat) (name : ByteArray) (deep : Nat) : ∀ (r : List Tok) (i : Nat) (q : PS), l.drop i = r → In q o me name i → Alt true r → r.length ≤ m + 1 → deep + 1 ≤ i →
 ∃ res, Ev (fun k => R3_element.l0 k l i (zipN q) deep me name) res ∧ Res l i q o res
 | [], i, q, hr, hI, ha, _, _ => by cases ha
 | t :: r, i, q, hr, hI, ha, hm, hd => by
  obtain ⟨e1, e2, e3⟩ := rd_tok l i t r hr
  obtain ⟨a1, a2, a3⟩ := ha
  have hil : i < l.length := by omega
  have hlen : (t :: r).length = l.length - i := by rw [← hr, List.length_drop]
  have g2 : (0 : Int) ≤ (i : Int) := by omega
  have g4 : ¬ (i : Int) ≥ (l.length : Int) := by omega
  have hB : i ≤ 9000000000000000000 := by omega
  have hz := zipN_len hI.len
  have htop := hI.top
  have hsm := hI.small
  have hk : t.f0 = 2 ∨ t.f0 = 3 ∨ t.f0 = 4 := by
   have hk : t.f0 = 1 ∨ t.f0 = 2 ∨ t.f0 = 3 ∨ t.f0 = 4 ∨ t.f0 = 5 ∨ t.f0 = 6 ∨ t.f0 = 7 := by omega
   rcases hk with h | h | h | h | h | h | h
   ·rw [h] at a1; exact absurd a1 (by decide)
   ·exact Or.inl h
   ·exact Or.inr (Or.inl h)
   ·exact Or.inr (Or.inr h)
   ·rw [h] at a1; exact absurd a1 (by decide)
   ·rw [h] at a1; exact absurd a1 (by decide)
   ·rw [h] at a1; exact absurd a1 (by decide)
  have hfold : (l.drop i).foldl X.stepT q = (l.drop (i + 1)).foldl X.stepT (X.stepT q t) := by rw [hr, e3]; rfl
  rcases hk with c2 | c3 | c4
  ·
   have hst : X.stepT q t = attrS q t.f3 t.f4 := by unfold X.stepT; rw [if_neg (by omega), if_neg (by omega), if_neg (by omega), if_pos c2]
   have hme : (topP q.o + 1).toNat = me + 1 := by rw [htop]; omega
   have hBm : me ≤ 9000000000000000000 := by have := hI.lt; omega
   have hstart : ∀ k, R3_element.l0 (k + 2) l i (zipN q) deep me name = R3_element.l1 k l i (zipN q) deep me name ((me + 1 : Nat) : Int) := by
    intro k
    rw [R3_element.l0, if_pos e2, if_pos g2, e1, c2, show ((2 : Int) == 2) = true from rfl, R3_element.j2, if_pos rfl, wr_up me hBm]
   cases hany : (q.s.drop (me + 1)).any fun a => a.data.toList == t.f3.data.toList with
   | true =>
    refine ⟨(zipN q, (i : Int), false), ev_up 2 hstart (l1_yes l q hI.len (by omega) i t r hr deep me name _ (me + 1) rfl (by have := hI.lt; omega) hany), fun h => (by cases h), fun _ => ?_⟩
    rw [hfold]
    refine bad_run _ _ ?_
    rw [hst]
    show (q.wr || _) = true
    rw [hme, hany]; simp
   | false =>
    have hwr : (q.wr || ((q.s.drop (topP q.o + 1).toNat).any fun a => a.data.toList == t.f3.data.toList)) = false := by rw [hme, hany, hI.wr]; rfl
    have hI' : In (attrS q t.f3 t.f4) o me name (i + 1) := by
     refine ⟨hI.op, ?_, ?_, ?_, hI.x, hwr, ?_, hI.pos⟩
     ·show (q.s ++ [_]).length = (q.n ++ [_]).length
      rw [List.length_append, List.length_append, hI.len]; rfl
     ·show me < (q.n ++ [_]).length; rw [List.length_append]; have := hI.lt; omega
     ·show (q.s ++ [_]).getD me nob = name; rw [getD_app _ _ _ (by have := hI.lt; have := hI.len; omega)]; exact hI.nm
     ·show (q.n ++ [_]).length ≤ i + 1; rw [List.length_append, List.length_singleton]; omega
    have hzp : zipN (attrS q t.f3 t.f4) = zipN q ++ [⟨⟨2, 0, (me : Int), t.f4⟩, t.f3⟩] := by
     rw [← htop]; exact zipN_put hI.len _ _ rfl rfl
    obtain ⟨res, r1, r2⟩ := attrs_e hl m hC o me name deep r (i + 1) (attrS q t.f3 t.f4) e3 hI' (by rw [c2] at a3; exact a3) (by rw [List.length_cons] at hm; omega) (by omega)
    rw [hzp] at r1
    refine ⟨res, ev_up 2 hstart (l1_no l hl q hI.len (by omega) i t r hr deep me name res r1 _ (me + 1) rfl (by have := hI.lt; omega) hany), r2.from (by omega) (by rw [hfold, hst]) ⟨_, _, rfl, rfl⟩⟩
  ·
   have hst : X.stepT q t = q := by unfold X.stepT; rw [if_neg (by omega), if_neg (by omega), if_neg (by omega), if_neg (by omega), if_neg (by omega), if_neg (by omega)]
   have hI' : In q o me name (i + 1) := ⟨hI.op, hI.len, hI.lt, hI.nm, hI.x, hI.wr, by omega, hI.pos⟩
   obtain ⟨res, r1, r2⟩ := hC (i + 1) q o me name deep (by rw [List.length_cons] at hm hlen; omega) (by omega) hI' (by rw [e3]; rw [c3] at a3; exact a3) (by omega)
   refine ⟨res, ev_up 2 (fun k => ?_) r1, r2.from (by omega) (by rw [hfold, hst]) ⟨[], [], by simp, by simp⟩⟩
   show R3_element.l0 (k + 2) l i (zipN q) deep me name = _
   rw [R3_element.l0, if_pos e2, if_pos g2, e1, c3, show ((3 : Int) == 2) = false from rfl, R3_element.j2, if_neg (by decide), if_neg g4, if_pos g2, if_pos e2, e1, c3, if_neg (by decide), wr_up i hB]
  ·
   have hst : X.stepT q t = { q with o := o } := by
    unfold X.stepT
    rw [if_neg (by omega), if_neg (by omega), if_neg (by omega), if_neg (by omega), if_pos c4, hI.close, if_pos]
    rw [htop, Int.toNat_natCast]
    show name.data.toList = (q.s.getD me nob).data.toList
    rw [hI.nm]
   refine ⟨(zipN q, ((i + 1 : Nat) : Int), true), ev_now 2 fun k => ?_, fun _ => ⟨i + 1, { q with o := o }, rfl, by omega, by omega, by rw [hfold, hst], zipN_same rfl rfl, rfl, hI.x, hI.wr, hI.len, by show q.n.length ≤ i + 1; omega, ⟨[], [], by simp, by simp⟩, by rw [e3]; rw [c4] at a3; exact a3⟩, fun h => (by cases h)⟩
   show R3_element.l0 (k + 2) l i (zipN q) deep me name = _
   rw [R3_element.l0, if_pos e2, if_pos g2, e1, c4, show ((4 : Int) == 2) = false from rfl, R3_element.j2, if_neg (by decide), if_neg g4, if_pos g2, if_pos e2, e1, if_pos c4, wr_up i hB]
theorem elem_e (hl : l.length ≤ 2900) (m : Nat) (hC : C l m) : E l (m + 1) := by
 intro i p deep t r hr c1 ha hm hx hwr hroot hpos hlen hsm hd
 obtain ⟨e1, e2, e3⟩ := rd_tok l i t r hr
 rw [hr] at ha
 obtain ⟨a1, a2, a3⟩ := ha
 have hil : i < l.length := by omega
 have hB : i ≤ 9000000000000000000 := by omega
 have hz := zipN_len hlen
 have hrl : (t :: r).length = l.length - i := by rw [← hr, List.length_drop]
 have hst : X.stepT p t = beginP p t.f3 := by unfold X.stepT; rw [if_neg (by omega), if_neg (by omega), if_pos c1]
 have hfl := flush_no p hx
 have hnw : (p.wr || (decide (topP p.o < 0) && decide (0 < p.n.length))) = false := by
  rw [hwr]
  by_cases ho : p.o = []
  ·rw [hroot ho]; simp
  ·have : 0 ≤ topP p.o := hpos _ (topP_in _ ho)
   simp; omega
 have hI : In (beginP p t.f3) p.o p.n.length t.f3 (i + 1) := by
  unfold beginP
  rw [hfl]
  refine ⟨rfl, ?_, ?_, ?_, hx, hnw, ?_, hpos⟩
  ·show (p.s ++ [_]).length = (p.n ++ [_]).length
   rw [List.length_append, List.length_append, hlen]; rfl
  ·show p.n.length < (p.n ++ [_]).length; rw [List.length_append, List.length_singleton]; omega
  ·show (p.s ++ [t.f3]).getD p.n.length nob = t.f3
   rw [List.getD_eq_getElem?_getD, List.getElem?_append_right (by omega), hlen, Nat.sub_self]; rfl
  ·show (p.n ++ [_]).length ≤ i + 1; rw [List.length_append, List.length_singleton]; omega
 have hzp : zipN (beginP p t.f3) = zipN p ++ [⟨⟨1, 0, topP p.o, nob⟩, t.f3⟩] := by
  unfold beginP
  rw [hfl]
  exact zipN_put hlen _ _ rfl rfl
 obtain ⟨res, r1, r2⟩ := attrs_e l hl m hC p.o p.n.length t.f3 deep r (i + 1) (beginP p t.f3) e3 hI (by rw [c1] at a3; exact a3) (by rw [List.length_cons] at hrl; omega) (by omega)
 rw [hzp] at r1
 refine ⟨res, ev_up 2 (fun k => ?_) r1, r2.from (by omega) (by rw [hr, e3, ← hst]; rfl) ?_, fun ht => ?_⟩
 ·have g1 : ¬ (i : Int) ≥ (l.length : Int) := by omega
  have g2 : (0 : Int) ≤ (i : Int) := by omega
  have g3 : decide ((deep : Int) > 3000) = false := by simp; omega
  have g4 : (zipN p).length < 2513169434916 := by omega
  show R3_element.f (k + 2) l i (topP p.o) (zipN p) deep = _
  rw [R3_element.f, if_neg g1, if_pos g2, if_pos e2, e1, if_pos c1, g3, R3_element.j0, if_neg (by decide), if_pos g2, if_pos e2, if_pos g4, wr_up i hB, e1, hz]
 ·unfold beginP
  rw [hfl]
  exact ⟨_, _, rfl, rfl⟩
 ·obtain ⟨j, q', h1, h2, -, -, h5, -, -, -, h9, -, ⟨tn, ts, h11, -⟩, -⟩ := r2.1 ht
  refine ⟨by rw [h1]; omega, ?_⟩
  rw [← h5, zipN_len h9, h11, List.length_append]
  have := hI.lt; omega
theorem cont_e (hl : l.length ≤ 2900) (hts : tsize l ≤ 9000000000000000000) (m : Nat) (hE : E l m) (hC : 0 < m → C l (m - 1)) : C l m := by
 intro i q o me name deep hm hi hI ha hd
 obtain ⟨Kt, hKt⟩ := texts_f l (by omega) i hi (Nat.le_trans (tsize_drop l i) hts)
 have hle := textsL_le (l.drop i) nob
 have hsome := textsL_some (l.drop i) nob
 have hmac := texts_machine (l.drop i) q
 obtain ⟨ha1, ha2⟩ := texts_alt (l.drop i) nob ha
 rw [hI.x] at hmac
 rw [List.drop_drop] at hmac ha1 ha2
 rw [List.length_drop] at hle
 generalize (textsL (l.drop i) nob).1 = s at *
 generalize (textsL (l.drop i) nob).2 = c at *
 have hs0 : ¬ s.data.toList = [] → i + 1 ≤ i + c := by
  intro h
  rcases Nat.eq_zero_or_pos c with h0 | h0
  ·rw [hsome h0] at h; exact absurd rfl h
  ·omega
 obtain ⟨hP, hPz, tn, ts, hPn, hPs⟩ := hI.flush s (i + c) (by omega) hs0
 have hpe := end_flush { q with x := s }
 have hpb := begin_flush { q with x := s }
 generalize hp : flushP { q with x := s } = p at *
 have hzl := zipN_len hI.len
 have hsmall := hI.small
 have hpz := zipN_len hP.len
 have main : ∃ res, Ev (fun k => R3_element.j5 k l (zipN p) deep me name ((i + c : Nat) : Int)) res ∧ Res l i q o res := by
  have g2 : (0 : Int) ≤ ((i + c : Nat) : Int) := by omega
  cases hr : l.drop (i + c) with
  | nil =>
   have hge : ((i + c : Nat) : Int) ≥ (l.length : Int) := by
    rcases Nat.lt_or_ge (i + c) l.length with h | h
    ·rw [List.drop_eq_getElem_cons h] at hr; cases hr
    ·omega
   refine ⟨(zipN p, ((i + c : Nat) : Int), false), ev_now 1 fun k => ?_, fun h => (by cases h), fun _ => ?_⟩
   ·show R3_element.j5 (k + 1) l (zipN p) deep me name ((i + c : Nat) : Int) = _
    rw [R3_element.j5, if_pos hge]
   ·rw [hmac, hr]
    right
    show ¬ q.o = []
    rw [hI.op]; simp
  | cons t r =>
   obtain ⟨e1, e2, e3⟩ := rd_tok l (i + c) t r hr
   have g1 : ¬ ((i + c : Nat) : Int) ≥ (l.length : Int) := by omega
   have hB : i + c ≤ 9000000000000000000 := by omega
   have hBd : deep ≤ 9000000000000000000 := by omega
   rw [hr] at ha1 ha2 hmac
   obtain ⟨b1, b2, b3⟩ := ha1
   rcases ha2 t r rfl with c1 | c5
   ·
    have hst : X.stepT { q with x := s } t = X.stepT p t := by
     unfold X.stepT
     rw [if_neg (by omega), if_neg (by omega), if_pos c1, if_neg (by omega), if_neg (by omega), if_pos c1, hpb]
    have hfold : (l.drop i).foldl X.stepT q = (l.drop (i + c)).foldl X.stepT p := by rw [hmac, hr, List.foldl_cons, List.foldl_cons, hst]
    have hpo : ∀ z, z ∈ p.o → 0 ≤ z := by
     intro z hz
     rw [hP.op] at hz
     rcases List.mem_append.1 hz with hz | hz
     ·exact hP.pos z hz
     ·rw [List.mem_singleton.1 hz]; omega
    obtain ⟨res, r1, r2, r3⟩ := hE (i + c) p (deep + 1) t r hr c1 (by rw [hr]; exact ⟨b1, b2, b3⟩) (by omega) hP.x hP.wr (fun e => by rw [hP.op] at e; simp at e) hpo hP.len hP.small (by omega)
    rw [hP.top] at r1
    obtain ⟨K1, hK1⟩ := r1
    have hstep : ∀ k, K1 ≤ k → R3_element.j5 (k + 1) l (zipN p) deep me name ((i + c : Nat) : Int) = if res.2.2 = true then R3_element.l2 k l res.2.1 res.1 deep me name else some (res.1, res.2.1, false) := by
     intro k hk
     rw [R3_element.j5, if_neg g1, if_pos g2, if_pos e2, e1, if_neg (by omega), wr_up deep hBd, (show R3_element.f k l ((i + c : Nat) : Int) me (zipN p) ((deep + 1 : Nat) : Int) = some res from hK1 k hk), Option.bind_some]
    cases hres : res.2.2 with
    | false =>
     refine ⟨(res.1, res.2.1, false), ⟨K1 + 1, fun k hk => ?_⟩, fun h => (by cases h), fun _ => by rw [hfold]; exact r2.2 hres⟩
     obtain ⟨k, rfl⟩ : ∃ j, k = j + 1 := ⟨k - 1, by omega⟩
     have := hstep k (by omega)
     rw [hres, if_neg (by decide)] at this; exact this
    | true =>
     have hlt := (r3 hres).1
     obtain ⟨j, q', h1, h2, h3, h4, h5, h6, h7, h8, h9, h10, ⟨un, us, h11, h12⟩, h13⟩ := r2.1 hres
     rw [h1] at hlt
     have hI' : In q' o me name j := by
      refine ⟨by rw [h6, hP.op], h9, ?_, ?_, h7, h8, h10, hI.pos⟩
      ·rw [h11, List.length_append]; have := hP.lt; omega
      ·rw [h12, getD_app _ _ _ (by have := hP.lt; have := hP.len; omega)]; exact hP.nm
     obtain ⟨res2, s1, s2⟩ := hC (by omega) j q' o me name deep (by omega) h3 hI' h13 (by omega)
     refine ⟨res2, ?_, s2.from (by omega) (by rw [hfold, h4]) ⟨tn ++ un, ts ++ us, by rw [h11, hPn, List.append_assoc], by rw [h12, hPs, List.append_assoc]⟩⟩
     rw [h5] at s1
     obtain ⟨K2, hK2⟩ := s1
     refine ⟨K1 + K2 + 1, fun k hk => ?_⟩
     obtain ⟨k, rfl⟩ : ∃ j, k = j + 1 := ⟨k - 1, by omega⟩
     have := hstep k (by omega)
     rw [hres, if_pos rfl, h1] at this
     exact this.trans (hK2 k (by omega))
   ·
    have hst : X.stepT { q with x := s } t = if name.data.toList = t.f3.data.toList then { p with o := o } else { p with wr := true } := by
     unfold X.stepT
     rw [if_neg (by omega), if_neg (by omega), if_neg (by omega), if_neg (by omega), if_neg (by omega), if_pos c5, ← hpe, hP.close]
    have hfold : (l.drop i).foldl X.stepT q = (l.drop (i + c + 1)).foldl X.stepT (X.stepT { q with x := s } t) := by rw [hmac, e3]; rfl
    refine ⟨(zipN p, ((i + c + 1 : Nat) : Int), (t.f3.toList == name.toList)), ev_now 1 fun k => ?_, fun h => ?_, fun h => ?_⟩
    ·show R3_element.j5 (k + 1) l (zipN p) deep me name ((i + c : Nat) : Int) = _
     rw [R3_element.j5, if_neg g1, if_pos g2, if_pos e2, e1, if_pos c5, wr_up (i + c) hB]
    ·have h : t.f3.toList = name.toList := by simpa using h
     rw [Lib.toList_data, Lib.toList_data] at h
     rw [if_pos h.symm] at hst
     rw [hst] at hfold
     exact ⟨i + c + 1, { p with o := o }, rfl, by omega, by omega, hfold, zipN_same rfl rfl, rfl, hP.x, hP.wr, hP.len, by show p.n.length ≤ _; have := hP.small; omega, ⟨tn, ts, hPn, hPs⟩, by rw [e3]; rw [c5] at b3; exact b3⟩
    ·have h : ¬ t.f3.toList = name.toList := by simpa using h
     rw [Lib.toList_data, Lib.toList_data] at h
     rw [if_neg fun e => h e.symm] at hst
     rw [hfold, hst]
     exact bad_run _ _ rfl
 obtain ⟨res, ⟨K, hK⟩, hR⟩ := main
 refine ⟨res, ⟨Kt + K + 1, fun k hk => ?_⟩, hR⟩
 obtain ⟨k, rfl⟩ : ∃ j, k = j + 1 := ⟨k - 1, by omega⟩
 have h2 := hK k (by omega)
 have g4 : (zipN q).length < 2513169434916 := by omega
 show R3_element.l2 (k + 1) l i (zipN q) deep me name = _
 have ht : R3_texts.f k l i = some (s, ((i + c : Nat) : Int)) := hKt k (by omega)
 rw [R3_element.l2, ht, Option.bind_some]
 simp only [Lib.toList_data]
 by_cases c : s.data.toList = []
 ·rw [if_pos c] at hPz ⊢
  rw [← hPz]; exact h2
 ·rw [if_neg c] at hPz ⊢
  rw [if_pos g4, ← hPz]; exact h2
theorem all_e (hl : l.length ≤ 2900) (hts : tsize l ≤ 9000000000000000000) : ∀ m, E l m ∧ C l m
 | 0 => by
  have hE : E l 0 := by
   intro i p deep t r hr c1 ha hm
   obtain ⟨e1, e2, e3⟩ := rd_tok l i t r hr
   omega
  exact ⟨hE, cont_e l hl hts 0 hE fun h => absurd h (by decide)⟩
 | m + 1 => by
  obtain ⟨h1, h2⟩ := all_e hl hts m
  have hE := elem_e l hl m h2
  exact ⟨hE, cont_e l hl hts (m + 1) hE fun _ => by rw [Nat.add_sub_cancel]; exact h2⟩
end
end Go.Proofs.YtlhhhlimjajnlaaGreat.R13
end
section
set_option linter.unusedVariables false
set_option linter.unusedSimpArgs false
namespace Go.Proofs.YtlhhhlimjajnlaaGreat.R13
open Go.RowKit Go.Proofs.YtlhhhlimjajnlaaGreat Go.Proofs.YtlhhhlimjajnlaaGreat.Q Go.Proofs.YtlhhhlimjajnlaaGreat.P11 Go.Proofs.YtlhhhlimjajnlaaGreat.P12 Go.Proofs.YtlhhhlimjajnlaaGreatW.PrintWords Go.Proofs.YtlhhhlimjajnlaaGreat.X Go.Proofs.YtlhhhlimjajnlaaGreat.P13 Go.Proofs.YtlhhhlimjajnlaaGreat.Ck
theorem snoc_ind {α : Type} {P : List α → Prop} (h0 : P []) (h1 : ∀ l a, P l → P (l ++ [a])) : ∀ l, P l := by
 have main : ∀ (n : Nat) (l : List α), l.length = n → P l := by
  intro n
  induction n with
  | zero => intro l hl; rw [List.eq_nil_of_length_eq_zero hl]; exact h0
  | succ n ih =>
   intro l hl
   rcases List.eq_nil_or_concat l with h | ⟨pre, a, h⟩
   ·rw [h] at hl; cases hl
   ·rw [List.concat_eq_append] at h
    subst h
    exact h1 _ _ (ih pre (by rw [List.length_append, List.length_singleton] at hl; omega))
 exact fun l => main _ l rfl
def dep1 (ds : List Int) (m : Nd) : Int := if 0 ≤ m.f2 then ds.getD m.f2.toNat 0 + 1 else 0
def deps (n : List Nd) : List Int := n.foldl (fun ds m => ds ++ [dep1 ds m]) []
theorem deps_snoc (n : List Nd) (m : Nd) : deps (n ++ [m]) = deps n ++ [dep1 (deps n) m] := by unfold deps; rw [List.foldl_append]; rfl
theorem deps_len : ∀ n : List Nd, (deps n).length = n.length := by
 intro n
 induction n using snoc_ind with
 | h0 => rfl
 | h1 n m ih => rw [deps_snoc, List.length_append, List.length_append, ih]; rfl
theorem deps_take (n : List Nd) : ∀ i, i ≤ n.length → deps (n.take i) = (deps n).take i := by
 induction n using snoc_ind with
 | h0 => intro i hi; simp [deps]
 | h1 n m ih =>
  intro i hi
  rw [deps_snoc]
  rcases Nat.lt_or_ge n.length i with c | c
  ·have : i = n.length + 1 := by rw [List.length_append, List.length_singleton] at hi; omega
   rw [List.take_of_length_le (by rw [List.length_append, List.length_singleton]; omega), List.take_of_length_le (by rw [List.length_append, List.length_singleton, deps_len]; omega), deps_snoc]
  ·rw [List.take_append_of_le_length c, List.take_append_of_le_length (by rw [deps_len]; exact c), ih i c]
theorem deps_at (n : List Nd) (i : Nat) (hi : i < n.length) : (deps n).getD i 0 = dep1 ((deps n).take i) (n.getD i Ck.nz) := by
 have h1 := deps_take n (i + 1) (by omega)
 rw [List.take_succ_eq_append_getElem hi, deps_snoc, deps_take n i (by omega)] at h1
 have h2 := congrArg (fun l => l.getD i 0) h1
 simp only [List.getD_eq_getElem?_getD] at h2 ⊢
 rw [List.getElem?_append_right (by rw [List.length_take]; omega), List.length_take, deps_len, Nat.min_eq_left (by omega), Nat.sub_self, List.getElem?_take_of_lt (by omega)] at h2
 rw [← h2, List.getElem?_eq_getElem hi]; rfl
def Deep (n : List Nd) : Prop := ∃ i, i < n.length ∧ (n.getD i Ck.nz).f0 = 1 ∧ 64 < (deps n).getD i 0
theorem getD_n (a b : List Nd) (i : Nat) (h : i < a.length) : (a ++ b).getD i Ck.nz = a.getD i Ck.nz := by
 rw [List.getD_eq_getElem?_getD, List.getD_eq_getElem?_getD, List.getElem?_append_left h]
theorem getD_i (a b : List Int) (i : Nat) (h : i < a.length) : (a ++ b).getD i 0 = a.getD i 0 := by
 rw [List.getD_eq_getElem?_getD, List.getD_eq_getElem?_getD, List.getElem?_append_left h]
theorem deep_snoc (n : List Nd) (m : Nd) : Deep (n ++ [m]) ↔ Deep n ∨ (m.f0 = 1 ∧ 64 < dep1 (deps n) m) := by
 unfold Deep
 rw [deps_snoc]
 constructor
 ·rintro ⟨i, h1, h2, h3⟩
  rw [List.length_append, List.length_singleton] at h1
  rcases Nat.lt_or_ge i n.length with c | c
  ·left
   rw [getD_n _ _ _ c] at h2
   rw [getD_i _ _ _ (by rw [deps_len]; exact c)] at h3
   exact ⟨i, c, h2, h3⟩
  ·right
   have : i = n.length := by omega
   subst this
   rw [List.getD_eq_getElem?_getD, List.getElem?_append_right (Nat.le_refl _), Nat.sub_self] at h2
   rw [List.getD_eq_getElem?_getD, List.getElem?_append_right (by rw [deps_len]; exact Nat.le_refl _), deps_len, Nat.sub_self] at h3
   exact ⟨h2, h3⟩
 ·rintro (⟨i, h1, h2, h3⟩ | ⟨h1, h2⟩)
  ·exact ⟨i, zz72, by rw [getD_n _ _ _ h1]; exact h2, by rw [getD_i _ _ _ (by rw [deps_len]; exact h1)]; exact h3⟩
  ·refine ⟨n.length, by rw [List.length_append, List.length_singleton]; omega, ?_, ?_⟩
   ·rw [List.getD_eq_getElem?_getD, List.getElem?_append_right (Nat.le_refl _), Nat.sub_self]; exact h1
   ·rw [List.getD_eq_getElem?_getD, List.getElem?_append_right (by rw [deps_len]; exact Nat.le_refl _), deps_len, Nat.sub_self]; exact h2
structure Dp (p : PS) : Prop where
 len : p.s.length = p.n.length
 op : ∀ (j : Nat) (z : Int), p.o[j]? = some z → 0 ≤ z ∧ z < (p.n.length : Int) ∧ (deps p.n).getD z.toNat 0 = (j : Int)
 deep : p.dp = true ↔ Deep p.n
 low : ∀ (i : Nat) m, p.n[i]? = some m → -1 ≤ m.f2 ∧ m.f2 < (i : Int)
theorem Dp.top {p : PS} (h : Dp p) : (p.o = [] ∧ topP p.o = -1) ∨ (0 ≤ topP p.o ∧ topP p.o < (p.n.length : Int) ∧ (deps p.n).getD (topP p.o).toNat 0 = (p.o.length : Int) - 1) := by
 by_cases ho : p.o = []
 ·left; exact ⟨ho, by rw [ho]; rfl⟩
 ·right
  have hpos : 0 < p.o.length := List.length_pos_iff.2 ho
  have hz : p.o[p.o.length - 1]? = some (topP p.o) := by
   unfold topP
   rw [List.getLast?_eq_getElem?, List.getElem?_eq_getElem (by omega)]; rfl
  obtain ⟨h1, h2, h3⟩ := h.op _ _ hz
  exact ⟨h1, h2, by rw [h3]; omega⟩
theorem Dp.dep {p : PS} (h : Dp p) (m : Nd) (hm : m.f2 = topP p.o) : dep1 (deps p.n) m = (p.o.length : Int) := by
 unfold dep1
 rw [hm]
 rcases h.top with ⟨h1, h2⟩ | ⟨h1, h2, h3⟩
 ·rw [h2, if_neg (by decide), h1]; rfl
 ·rw [if_pos h1, h3]; omega
theorem Dp.put {p q : PS} (h : Dp p) (m : Nd) (s : ByteArray) (hm : m.f2 = topP p.o) (hn : q.n = p.n ++ [m]) (hs : q.s = p.s ++ [s]) (ho : ∀ (j : Nat) z, q.o[j]? = some z → p.o[j]? = some z ∨ (j = p.o.length ∧ z = (p.n.length : Int))) (hd : q.dp = true ↔ p.dp = true ∨ (m.f0 = 1 ∧ 64 < (p.o.length : Int))) : Dp q := by
 refine ⟨by rw [hn, hs, List.length_append, List.length_append, h.len]; rfl, fun j z hz => ?_, ?_, fun i x hx => ?_⟩
 ·rw [hn, List.length_append, List.length_singleton, deps_snoc]
  rcases ho j z hz with h' | ⟨rfl, rfl⟩
  ·obtain ⟨h1, h2, h3⟩ := h.op j z h'
   exact ⟨h1, by omega, by rw [getD_i _ _ _ (by rw [deps_len]; omega)]; exact h3⟩
  ·refine ⟨by omega, by omega, ?_⟩
   rw [Int.toNat_natCast, List.getD_eq_getElem?_getD, List.getElem?_append_right (by rw [deps_len]; exact Nat.le_refl _), deps_len, Nat.sub_self]
   show dep1 (deps p.n) m = _
   exact h.dep m hm
 ·rw [hd, h.deep, hn, deep_snoc, h.dep m hm]
 ·rw [hn] at hx
  rcases Nat.lt_or_ge i p.n.length with c | c
  ·rw [List.getElem?_append_left c] at hx; exact h.low i x hx
  ·rw [List.getElem?_append_right c] at hx
   have hl := (List.getElem?_eq_some_iff.1 hx).1
   rw [List.length_singleton] at hl
   rw [show i - p.n.length = 0 from by omega] at hx
   rw [← Option.some.inj hx, hm]
   rcases h.top with ⟨h1, h2⟩ | ⟨h1, h2, h3⟩ <;> omega
theorem Dp.flush {p : PS} (h : Dp p) : Dp (flushP p) := by
 unfold flushP
 split
 ·exact ⟨h.len, h.op, h.deep, h.low⟩
 split
 ·exact ⟨h.len, h.op, h.deep, h.low⟩
 ·refine h.put ⟨3, -1, topP p.o, p.x⟩ ⟨#[]⟩ rfl rfl rfl (fun j z hz => Or.inl hz) ⟨Or.inl, ?_⟩
  rintro (h' | ⟨h', -⟩)
  ·exact h'
  ·exact absurd h' (by show ¬ (3 : Int) = 1; omega)
theorem Dp.end {p : PS} (h : Dp p) (name : ByteArray) : Dp (endP p name) := by
 have hf := h.flush
 unfold endP
 simp only
 split
 ·exact ⟨hf.len, hf.op, hf.deep, hf.low⟩
 ·refine ⟨hf.len, fun j z hz => hf.op j z ?_, hf.deep, hf.low⟩
  have hz : (flushP p).o.dropLast[j]? = some z := hz
  rw [List.getElem?_dropLast] at hz
  split at hz
  ·exact hz
  ·cases hz
theorem Dp.step {p : PS} (h : Dp p) (t : Tok) : Dp (X.stepT p t) := by
 unfold X.stepT
 split
 ·exact h
 split
 ·exact ⟨h.len, h.op, h.deep, h.low⟩
 split
 ·refine h.flush.put (q := beginP p t.f3) ⟨1, 0, topP (flushP p).o, ⟨#[]⟩⟩ t.f3 rfl rfl rfl (fun j z hz => ?_) ?_
  ·have hz : ((flushP p).o ++ [((flushP p).n.length : Int)])[j]? = some z := hz
   rcases Nat.lt_or_ge j (flushP p).o.length with c | c
   ·rw [List.getElem?_append_left c] at hz; exact Or.inl hz
   ·rw [List.getElem?_append_right c] at hz
    have hl := (List.getElem?_eq_some_iff.1 hz).1
    rw [List.length_singleton] at hl
    rw [show j - (flushP p).o.length = 0 from by omega] at hz
    exact Or.inr ⟨by omega, (Option.some.inj hz).symm⟩
  ·show ((flushP p).dp || decide ((64 : Int) < (flushP p).o.length)) = true ↔ _
   rw [Bool.or_eq_true, decide_eq_true_iff]
   constructor
   ·rintro (h' | h')
    ·exact Or.inl h'
    ·exact Or.inr ⟨rfl, h'⟩
   ·rintro (h' | ⟨-, h'⟩)
    ·exact Or.inl h'
    ·exact Or.inr h'
 split
 ·refine h.put (q := attrS p t.f3 t.f4) ⟨2, 0, topP p.o, t.f4⟩ t.f3 rfl rfl rfl (fun j z hz => Or.inl hz) ⟨Or.inl, ?_⟩
  rintro (h' | ⟨h', -⟩)
  ·exact h'
  ·exact absurd h' (by show ¬ (2 : Int) = 1; omega)
 split
 ·exact h.end _
 split
 ·exact h.end _
 ·exact h
theorem Dp.run : ∀ (r : List Tok) {p : PS}, Dp p → Dp (r.foldl X.stepT p)
 | [], p, h => h
 | t :: r, p, h => Dp.run r (h.step t)
theorem dp_zero : Dp psZero := ⟨rfl, fun j z hz => by simp [psZero] at hz, ⟨fun h => (by cases h), fun ⟨i, h, _⟩ => absurd h (by show ¬ i < 0; omega)⟩, fun i m hm => by simp [psZero] at hm⟩
def Inc (A : List ByteArray) : Prop := A.Pairwise fun a b => a.data.toList < b.data.toList
theorem u8_lt_irrefl (a : List UInt8) : ¬ a < a := List.lt_irrefl a
theorem inc_eq : ∀ {A B : List ByteArray}, Inc A → Inc B → (∀ x, x ∈ A ↔ x ∈ B) → A = B
 | [], [], _, _, _ => rfl
 | [], b :: B, _, _, h => absurd ((h b).2 (List.mem_cons_self ..)) (by simp)
 | a :: A, [], _, _, h => absurd ((h a).1 (List.mem_cons_self ..)) (by simp)
 | a :: A, b :: B, hA, hB, h => by
  obtain ⟨a1, a2⟩ := List.pairwise_cons.1 hA
  obtain ⟨b1, b2⟩ := List.pairwise_cons.1 hB
  have hab : a = b := by
   have m1 := (h a).1 (List.mem_cons_self ..)
   have m2 := (h b).2 (List.mem_cons_self ..)
   rcases List.mem_cons.1 m1 with e | m1
   ·exact e
   ·rcases List.mem_cons.1 m2 with e | m2
    ·exact e.symm
    ·exact absurd (List.lt_trans (b1 a m1) (a1 b m2)) (u8_lt_irrefl _)
  subst hab
  rw [inc_eq a2 b2 fun x => ?_]
  constructor
  ·intro hx
   rcases List.mem_cons.1 ((h x).1 (List.mem_cons_of_mem _ hx)) with e | m
   ·rw [e] at hx; exact absurd (a1 _ hx) (u8_lt_irrefl _)
   ·exact m
  ·intro hx
   rcases List.mem_cons.1 ((h x).2 (List.mem_cons_of_mem _ hx)) with e | m
   ·rw [e] at hx; exact absurd (b1 _ hx) (u8_lt_irrefl _)
   ·exact m
theorem inc_sorted (l : List (List UInt8)) : Inc ((sortedP l).map bytesL) := by
 unfold Inc
 rw [List.pairwise_map]
 have e3 : ∀ l : List UInt8, (bytesL l).data.toList = l := fun l => by unfold bytesL; simp
 have h1 := sorted_le l
 have h2 := sorted_nodup l
 refine (h1.and h2).imp fun {a b} h => ?_
 rw [e3, e3]
 exact Classical.byContradiction fun c => h.2 (List.le_antisymm h.1 (List.not_lt.1 c))
theorem data_inj {a b : ByteArray} (h : a.data.toList = b.data.toList) : a = b := by
 apply ByteArray.ext; apply Array.ext'; exact h
theorem with_f (A : List ByteArray) (hA : Inc A) (hl : A.length ≤ 1000000) (s : ByteArray) : ∃ B, Ev (fun k => R3_with.f k A s) B ∧ Inc B ∧ (∀ x, x ∈ B ↔ x ∈ A ∨ x = s) ∧ B.length ≤ A.length + 1 := by
 have put : ∀ (d i : Nat) (X5 : List ByteArray), A.length - i = d → i ≤ A.length → X5.length ≤ i + 1 → (∀ j, i ≤ j → j < A.length → ¬ (A.getD j nob).data.toList = s.data.toList) → Ev (fun k => R3_with.l0 k A s X5 true i) (X5 ++ A.drop i) := by
  intro d
  induction d with
  | zero =>
   intro i X5 hd hi hx hne
   refine ⟨1, fun k hk => ?_⟩
   obtain ⟨k, rfl⟩ : ∃ j, k = j + 1 := ⟨k - 1, by omega⟩
   show R3_with.l0 (k + 1) A s X5 true i = _
   rw [R3_with.l0, if_neg (by omega), if_pos rfl, List.drop_eq_nil_of_le (by omega), List.append_nil]
  | succ d ih =>
   intro i X5 hd hi hx hne
   have hlt : i < A.length := by omega
   have hB : i ≤ 9000000000000000000 := by omega
   have g1 : (i : Int) < (A.length : Int) := by omega
   have g2 : (0 : Int) ≤ (i : Int) := by omega
   have g3 : X5.length < 8796093022208 := by omega
   obtain ⟨K, hK⟩ := ih (i + 1) (X5 ++ [A.getD i nob]) (by omega) (by omega) (by rw [List.length_append, List.length_singleton]; omega) (fun j h1 h2 => hne j (by omega) h2)
   refine ⟨K + 1, fun k hk => ?_⟩
   obtain ⟨k, rfl⟩ : ∃ j, k = j + 1 := ⟨k - 1, by omega⟩
   show R3_with.l0 (k + 1) A s X5 true i = _
   have hrd : rdOf ByteArray.empty A (i : Int) = A.getD i nob := by unfold rdOf; rw [Int.toNat_natCast]; rfl
   rw [R3_with.l0, if_pos g1, if_pos g2, hrd, Lib.toList_data, Lib.toList_data, if_neg (hne i (Nat.le_refl _) hlt), if_pos rfl, if_pos g3, wr_up i hB]
   refine (hK k (by omega)).trans ?_
   rw [List.append_assoc, List.drop_eq_getElem_cons hlt, List.getD_eq_getElem?_getD, List.getElem?_eq_getElem hlt]; rfl
 have main : ∀ (d i : Nat), A.length - i = d → i ≤ A.length → (∀ j, j < i → (A.getD j nob).data.toList < s.data.toList) → ∃ B, Ev (fun k => R3_with.l0 k A s (A.take i) false i) B ∧ Inc B ∧ (∀ x, x ∈ B ↔ x ∈ A ∨ x = s) ∧ B.length ≤ A.length + 1 := by
  intro d
  induction d with
  | zero =>
   intro i hd hi hlt
   have e : A.take i = A := List.take_of_length_le (by omega)
   refine ⟨A ++ [s], ⟨1, fun k hk => ?_⟩, ?_, fun x => by simp, by simp⟩
   ·obtain ⟨k, rfl⟩ : ∃ j, k = j + 1 := ⟨k - 1, by omega⟩
    show R3_with.l0 (k + 1) A s (A.take i) false i = _
    rw [R3_with.l0, if_neg (by omega), if_neg (by decide), e, if_pos (by omega)]
   ·unfold Inc
    rw [List.pairwise_append]
    refine ⟨hA, List.pairwise_singleton _ _, fun a ha b hb => ?_⟩
    rw [List.mem_singleton.1 hb]
    obtain ⟨j, hj⟩ := List.mem_iff_getElem?.1 ha
    have := hlt j (by have := (List.getElem?_eq_some_iff.1 hj).1; omega)
    rw [List.getD_eq_getElem?_getD, hj] at this; exact this
  | succ d ih =>
   intro i hd hi hlt
   have hil : i < A.length := by omega
   have hB : i ≤ 9000000000000000000 := by omega
   have g1 : (i : Int) < (A.length : Int) := by omega
   have g2 : (0 : Int) ≤ (i : Int) := by omega
   have hrd : rdOf ByteArray.empty A (i : Int) = A.getD i nob := by unfold rdOf; rw [Int.toNat_natCast]; rfl
   have hai : A.getD i nob = A[i] := by rw [List.getD_eq_getElem?_getD, List.getElem?_eq_getElem hil]; rfl
   have hlen : (A.take i).length = i := by rw [List.length_take]; omega
   by_cases c : A[i].data.toList = s.data.toList
   ·refine ⟨A, ⟨1, fun k hk => ?_⟩, hA, fun x => ⟨Or.inl, ?_⟩, by omega⟩
    ·obtain ⟨k, rfl⟩ : ∃ j, k = j + 1 := ⟨k - 1, by omega⟩
     show R3_with.l0 (k + 1) A s (A.take i) false i = _
     rw [R3_with.l0, if_pos g1, if_pos g2, hrd, hai, Lib.toList_data, Lib.toList_data, if_pos c]
    ·rintro (h | rfl)
     ·exact h
     ·rw [← data_inj c]; exact List.getElem_mem _
   ·by_cases c2 : s.data.toList < A[i].data.toList
    ·
     have hgt : ∀ j, i ≤ j → (hj : j < A.length) → s.data.toList < A[j].data.toList := by
      intro j h1 h2
      rcases Nat.lt_or_ge i j with h | h
      ·exact List.lt_trans c2 (List.pairwise_iff_getElem.1 hA i j hil h2 h)
      ·have : j = i := by omega
       subst this; exact c2
     obtain ⟨K, hK⟩ := put (A.length - (i + 1)) (i + 1) (A.take i ++ [s] ++ [A[i]]) rfl (by omega) (by rw [List.length_append, List.length_append, hlen]; simp) (fun j h1 h2 => by
      have := hgt j (by omega) h2
      rw [List.getD_eq_getElem?_getD, List.getElem?_eq_getElem h2]
      intro e
      have e : A[j].data.toList = s.data.toList := e
      rw [e] at this; exact u8_lt_irrefl _ this)
     refine ⟨A.take i ++ [s] ++ [A[i]] ++ A.drop (i + 1), ⟨K + 1, fun k hk => ?_⟩, ?_, fun x => ?_, ?_⟩
     ·obtain ⟨k, rfl⟩ : ∃ j, k = j + 1 := ⟨k - 1, by omega⟩
      show R3_with.l0 (k + 1) A s (A.take i) false i = _
      have hbl : Op.bytesLess s.data.toList A[i].data.toList = true := by rw [Go.Proofs.bytesLess_eq]; simpa using c2
      rw [R3_with.l0, if_pos g1, if_pos g2, hrd, hai]
      simp only [Lib.toList_data]
      rw [if_neg c, if_neg (by decide), if_pos hbl, if_pos (by omega), Option.bind_some, if_pos (by rw [List.length_append, hlen]; simp; omega), wr_up i hB]
      exact hK k (by omega)
     ·have e : A.take i ++ [s] ++ [A[i]] ++ A.drop (i + 1) = A.take i ++ s :: A.drop i := by
       rw [List.drop_eq_getElem_cons hil]; simp
      rw [e]
      unfold Inc
      rw [List.pairwise_append]
      refine ⟨hA.sublist (List.take_sublist _ _), ?_, fun a ha b hb => ?_⟩
      ·rw [List.pairwise_cons]
       refine ⟨fun b hb => ?_, hA.sublist (List.drop_sublist _ _)⟩
       obtain ⟨j, hj⟩ := List.mem_iff_getElem?.1 hb
       rw [List.getElem?_drop] at hj
       obtain ⟨h1, rfl⟩ := List.getElem?_eq_some_iff.1 hj
       exact hgt _ (by omega) h1
      ·obtain ⟨j, hj⟩ := List.mem_iff_getElem?.1 ha
       have hjl := (List.getElem?_eq_some_iff.1 hj).1
       rw [hlen] at hjl
       rw [List.getElem?_take_of_lt hjl] at hj
       have hs := hlt j hjl
       rw [List.getD_eq_getElem?_getD, hj] at hs
       have hs : a.data.toList < s.data.toList := hs
       rcases List.mem_cons.1 hb with rfl | hb
       ·exact hs
       ·obtain ⟨q, hq⟩ := List.mem_iff_getElem?.1 hb
        rw [List.getElem?_drop] at hq
        obtain ⟨h1, rfl⟩ := List.getElem?_eq_some_iff.1 hq
        exact List.lt_trans hs (hgt _ (by omega) h1)
     ·have hsp : x ∈ A ↔ x ∈ A.take i ∨ x = A[i] ∨ x ∈ A.drop (i + 1) := by
       have hA2 : A.take i ++ A[i] :: A.drop (i + 1) = A := by rw [List.getElem_cons_drop, List.take_append_drop]
       have : x ∈ A ↔ x ∈ A.take i ++ A[i] :: A.drop (i + 1) := by rw [hA2]
       rw [this, List.mem_append, List.mem_cons]
      rw [hsp]
      simp only [List.mem_append, List.mem_singleton]
      constructor
      ·rintro (((h | h) | h) | h)
       ·exact Or.inl (Or.inl h)
       ·exact Or.inr h
       ·exact Or.inl (Or.inr (Or.inl h))
       ·exact Or.inl (Or.inr (Or.inr h))
      ·rintro ((h | h | h) | h)
       ·exact Or.inl (Or.inl (Or.inl h))
       ·exact Or.inl (Or.inr h)
       ·exact Or.inr h
       ·exact Or.inl (Or.inl (Or.inr h))
     ·rw [List.length_append, List.length_append, List.length_append, hlen, List.length_drop]; simp; omega
    ·
     have hlt2 : A[i].data.toList < s.data.toList := Classical.byContradiction fun h => c (List.le_antisymm (List.not_lt.1 c2) (List.not_lt.1 h))
     obtain ⟨B, ⟨K, hK⟩, h2, h3, h4⟩ := ih (i + 1) (by omega) (by omega) (fun j hj => by
      rcases Nat.lt_or_ge j i with h | h
      ·exact hlt j h
      ·have : j = i := by omega
       subst this; rw [hai]; exact hlt2)
     refine ⟨B, ⟨K + 1, fun k hk => ?_⟩, h2, h3, h4⟩
     obtain ⟨k, rfl⟩ : ∃ j, k = j + 1 := ⟨k - 1, by omega⟩
     show R3_with.l0 (k + 1) A s (A.take i) false i = _
     have hbl : ¬ Op.bytesLess s.data.toList A[i].data.toList = true := by rw [Go.Proofs.bytesLess_eq]; simpa using c2
     rw [R3_with.l0, if_pos g1, if_pos g2, hrd, hai]
     simp only [Lib.toList_data]
     rw [if_neg c, if_neg (by decide), if_neg hbl, if_pos (by omega), wr_up i hB]
     have hK := hK k (by omega)
     rw [List.take_succ_eq_append_getElem hil] at hK
     exact hK
 obtain ⟨B, h1, h2, h3, h4⟩ := main A.length 0 rfl (Nat.zero_le _) (fun j hj => by omega)
 rw [List.take_zero] at h1
 exact ⟨B, h1, h2, h3, h4⟩
theorem number_f (A : List ByteArray) (hl : A.length ≤ 1000000) (s : ByteArray) (hs : s ∈ A) : Ev (fun k => R3_Number.f k A s) ((A.map fun a => a.data.toList).idxOf s.data.toList : Int) := by
 have main : ∀ (d i : Nat), A.length - i = d → i ≤ A.length → i ≤ (A.map fun a => a.data.toList).idxOf s.data.toList → Ev (fun k => R3_Number.l0 k A s i) ((A.map fun a => a.data.toList).idxOf s.data.toList : Int) := by
  have hm : s.data.toList ∈ A.map fun a => a.data.toList := List.mem_map_of_mem hs
  have hlt := List.idxOf_lt_length_of_mem hm
  intro d
  induction d with
  | zero =>
   intro i hd hi hx
   rw [List.length_map] at hlt; omega
  | succ d ih =>
   intro i hd hi hx
   have hil : i < A.length := by omega
   have hB : i ≤ 9000000000000000000 := by omega
   have g1 : (i : Int) < (A.length : Int) := by omega
   have g2 : (0 : Int) ≤ (i : Int) := by omega
   have hrd : rdOf ByteArray.empty A (i : Int) = A[i] := by unfold rdOf; rw [Int.toNat_natCast, List.getD_eq_getElem?_getD, List.getElem?_eq_getElem hil]; rfl
   by_cases c : A[i].data.toList = s.data.toList
   ·have he : (A.map fun a => a.data.toList).idxOf s.data.toList = i := by
     rcases Nat.lt_or_ge i ((A.map fun a => a.data.toList).idxOf s.data.toList) with h | h
     ·have := List.not_of_lt_findIdx (p := (· == s.data.toList)) (xs := A.map fun a => a.data.toList) (i := i) (by unfold List.idxOf at h; exact h)
      rw [List.getElem_map, c] at this
      simp at this
     ·omega
    refine ⟨1, fun k hk => ?_⟩
    obtain ⟨k, rfl⟩ : ∃ j, k = j + 1 := ⟨k - 1, by omega⟩
    show R3_Number.l0 (k + 1) A s i = _
    rw [R3_Number.l0, if_pos g1, if_pos g2, hrd, Lib.toList_data, Lib.toList_data, if_pos c, he]
   ·have hne : ¬ (A.map fun a => a.data.toList).idxOf s.data.toList = i := by
     intro e
     have := List.getElem_idxOf hlt
     simp only [e, List.getElem_map] at this
     exact c this
    obtain ⟨K, hK⟩ := ih (i + 1) (by omega) (by omega) (by omega)
    refine ⟨K + 1, fun k hk => ?_⟩
    obtain ⟨k, rfl⟩ : ∃ j, k = j + 1 := ⟨k - 1, by omega⟩
    show R3_Number.l0 (k + 1) A s i = _
    rw [R3_Number.l0, if_pos g1, if_pos g2, hrd, Lib.toList_data, Lib.toList_data, if_neg c, wr_up i hB]
    exact hK k (by omega)
 exact main A.length 0 rfl (Nat.zero_le _) (Nat.zero_le _)
end Go.Proofs.YtlhhhlimjajnlaaGreat.R13
end
