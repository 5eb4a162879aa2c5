/- Parts of the proof of canonSame_holds, kept and merged by a program of mine (wip/tools/slim.py) out of my texts: P14a P14s PureCanonSame -/
import Derived.Test.YtlhhhlimjajnlaaGreatSPs40
import Derived.Test.YtlhhhlimjajnlaaGreatSPs38
import Derived.Test.YtlhhhlimjajnlaaGreatSPs10
import Derived.Test.YtlhhhlimjajnlaaGreatSPs20
import Derived.Test.YtlhhhlimjajnlaaGreatSPs14
import Derived.Test.YtlhhhlimjajnlaaGreatSPs41
section
set_option linter.unusedVariables false
set_option linter.unusedSimpArgs false
namespace Go.Proofs.YtlhhhlimjajnlaaGreat.P14
open Go.RowKit Go.Proofs.YtlhhhlimjajnlaaGreat Go.Proofs.YtlhhhlimjajnlaaGreat.Q Go.Proofs.YtlhhhlimjajnlaaGreat.P11 Go.Proofs.YtlhhhlimjajnlaaGreat.P12 Go.Proofs.YtlhhhlimjajnlaaGreatW.PrintWords Go.Proofs.YtlhhhlimjajnlaaGreat.X Go.Proofs.YtlhhhlimjajnlaaGreat.P13
def exC : ByteArray := ⟨#[60, 97, 32, 98, 61, 39, 38, 103, 116, 59, 39, 32, 62, 120, 60, 99, 47, 62, 60, 47, 97, 62]⟩
def psC : PS := ⟨[⟨1, 0, -1, ⟨#[]⟩⟩, ⟨2, 0, 0, ⟨#[62]⟩⟩, ⟨3, -1, 0, ⟨#[120]⟩⟩, ⟨1, 0, 0, ⟨#[]⟩⟩], [⟨#[97]⟩, ⟨#[98]⟩, ⟨#[]⟩, ⟨#[99]⟩], [], ⟨#[]⟩, false, false⟩
def nmC : List ByteArray := [⟨#[97]⟩, ⟨#[98]⟩, ⟨#[99]⟩]
def ndC : List Nod := [⟨1, 0, -1, ⟨#[]⟩⟩, ⟨2, 1, 0, ⟨#[62]⟩⟩, ⟨3, -1, 0, ⟨#[120]⟩⟩, ⟨1, 2, 0, ⟨#[]⟩⟩]
theorem exC_ps : flushP ((lexV exC).1.foldl X.stepT psZero) = psC := by kernel_rfl
theorem exC_ok : (lexV exC).2 = 0 := by kernel_rfl
theorem names_C : sortedP (namesOf psC) = [[97], [98], [99]] := by
  unfold sortedP
  rw [show onceP (namesOf psC) = [[97], [98], [99]] from by kernel_rfl]
  exact List.mergeSort_of_pairwise (by decide)
theorem exC_v : parseV exC = ((nmC, ndC), 0) := by
  rw [parse1 exC exC_ok, exC_ps]
  unfold treeP
  rw [names_C, if_neg (by decide), if_neg (by decide)]
  rfl
theorem exC_small : smallW nmC ndC = true := by kernel_rfl
theorem exC_w : writeV nmC ndC = (⟨#[60, 97, 32, 98, 61, 34, 38, 103, 116, 59, 34, 62, 120, 60, 99, 62, 60, 47, 99, 62, 60, 47, 97, 62]⟩, 0) := by kernel_rfl
def ouC : ByteArray := ⟨#[60, 97, 32, 98, 61, 34, 38, 103, 116, 59, 34, 62, 120, 60, 99, 62, 60, 47, 99, 62, 60, 47, 97, 62]⟩
theorem exC_write : canon_Write.f nmC ndC = some (ouC, 0) := by rw [canon_Write.f, if_pos exC_small, exC_w]; rfl
theorem exC_canon : canon_Canon.f exC = some (ouC, 0) := by
  unfold canon_Canon.f
  rw [parser_Parse.f, if_pos (by decide), exC_v, Option.bind_some]
  show (if (0 : Int) = 0 then (canon_Write.f nmC ndC).bind (fun b => some (b.1, b.2)) else _) = _
  rw [if_pos rfl, exC_write]; rfl
theorem awake14 : topiarylaw14_awake.f = some true := by
  unfold topiarylaw14_awake.f
  rw [show (⟨#[60, 97, 32, 98, 61, 39, 38, 103, 116, 59, 39, 32, 62, 120, 60, 99, 47, 62, 60, 47, 97, 62]⟩ : ByteArray) = exC from rfl, exC_canon, Option.bind_some]
  show (if ouC.toList = _ then some ((0 : Int) == 0) else some false) = some true
  rw [if_pos (by kernel_rfl)]; rfl
end Go.Proofs.YtlhhhlimjajnlaaGreat.P14
end
section
set_option linter.unusedVariables false
set_option linter.unusedSimpArgs false
namespace Go.Proofs.YtlhhhlimjajnlaaGreat.P14
open Go.RowKit Go.Proofs.YtlhhhlimjajnlaaGreat Go.Proofs.YtlhhhlimjajnlaaGreat.Q Go.Proofs.YtlhhhlimjajnlaaGreatW.PrintWords Go.Proofs.YtlhhhlimjajnlaaGreat.X
theorem ev_now {α : Type} {g : Nat → Option α} {r : α} (n : Nat) (h : ∀ k, g (k + n) = some r) : Ev g r := ⟨n, fun k hk => by rw [show k = (k - n) + n from by omega]; exact h _⟩
theorem ev_up {α : Type} {g f : Nat → Option α} {r : α} (n : Nat) (h : ∀ k, g (k + n) = f k) (e : Ev f r) : Ev g r := by
  obtain ⟨K, hK⟩ := e
  exact ⟨K + n, fun k hk => by rw [show k = (k - n) + n from by omega, h]; exact hK _ (by omega)⟩
theorem wr_up (i : Nat) (h : i ≤ 9000000000000000000) : wrap64 ((i : Int) + 1) = ((i + 1 : Nat) : Int) := by unfold wrap64; omega
theorem short14 (s : ByteArray) (n : Nat) : ∃ t : ByteArray, topiarylaw14_short.f s n = some t ∧ t.size ≤ n := by
  unfold topiarylaw14_short.f
  by_cases h : (s.size : Int) > n
  · rw [if_pos h, if_pos (by omega), if_pos (by omega)]
    refine ⟨_, rfl, ?_⟩
    rw [Lib.size_eq, Lib.extract_data, List.length_take, List.length_drop]; omega
  · rw [if_neg h]
    exact ⟨s, rfl, by omega⟩
theorem small1 (N : List ByteArray) (D : List Nod) (o1 : List ByteArray) : ∀ (d i : Nat) (o2 : List Nod), 30 - i = d → i ≤ 30 → o2.length = i → (∀ x, x ∈ o2 → x.f3.size ≤ 20) → ∃ r : List Nod, Ev (fun k => topiarylaw14_small.l1 k i N D o1 o2) (o1, r) ∧ r.length ≤ 30 ∧ ∀ x, x ∈ r → x.f3.size ≤ 20 := by
  intro d
  induction d with
  | zero =>
    intro i o2 hd hi ho hs
    refine ⟨o2, ev_now 1 fun k => ?_, by omega, hs⟩
    show topiarylaw14_small.l1 (k + 1) i N D o1 o2 = _
    have g1 : ¬ (i : Int) < 30 := by omega
    rw [topiarylaw14_small.l1, if_neg g1]
    split <;> rfl
  | succ d ih =>
    intro i o2 hd hi ho hs
    by_cases g0 : (i : Int) < (D.length : Int)
    · have g1 : (i : Int) < 30 := by omega
      have g2 : (0 : Int) ≤ (i : Int) := by omega
      have g3 : o2.length < 3518437208883 := by omega
      have hB : i ≤ 9000000000000000000 := by omega
      obtain ⟨t, ht, hts⟩ := short14 (rd_T41 D i).f3 20
      rw [show ((20 : Nat) : Int) = 20 from rfl] at ht
      obtain ⟨r, hr, hr2, hr3⟩ := ih (i + 1) (o2 ++ [⟨(rd_T41 D i).f0, (rd_T41 D i).f1, (rd_T41 D i).f2, t⟩]) (by omega) (by omega) (by simp [ho]) (fun x hx => by
        rcases List.mem_append.1 hx with hx | hx
        · exact hs x hx
        · rw [List.mem_singleton.1 hx]; exact hts)
      refine ⟨r, ev_up 1 (fun k => ?_) hr, hr2, hr3⟩
      show topiarylaw14_small.l1 (k + 1) i N D o1 o2 = _
      rw [topiarylaw14_small.l1, if_pos g0, if_pos g1, if_pos g2, ht, Option.bind_some, if_pos g3, wr_up i hB]
    · refine ⟨o2, ev_now 1 fun k => ?_, by omega, hs⟩
      show topiarylaw14_small.l1 (k + 1) i N D o1 o2 = _
      rw [topiarylaw14_small.l1, if_neg g0]
theorem small0 (N : List ByteArray) (D : List Nod) : ∀ (d i : Nat) (o1 : List ByteArray), 12 - i = d → i ≤ 12 → o1.length = i → (∀ x, x ∈ o1 → x.size ≤ 20) → ∃ (q : List ByteArray) (r : List Nod), Ev (fun k => topiarylaw14_small.l0 k i N D o1) (q, r) ∧ (q.length ≤ 12 ∧ ∀ x, x ∈ q → x.size ≤ 20) ∧ r.length ≤ 30 ∧ ∀ x, x ∈ r → x.f3.size ≤ 20 := by
  intro d
  induction d with
  | zero =>
    intro i o1 hd hi ho hs
    obtain ⟨r, hr, hr2⟩ := small1 N D o1 30 0 [] rfl (by omega) rfl (by simp)
    refine ⟨o1, r, ev_up 2 (fun k => ?_) hr, ⟨by omega, hs⟩, hr2⟩
    show topiarylaw14_small.l0 (k + 1 + 1) i N D o1 = _
    have g1 : ¬ (i : Int) < 12 := by omega
    rw [topiarylaw14_small.l0, if_neg g1]
    split <;> (rw [topiarylaw14_small.j1]; rfl)
  | succ d ih =>
    intro i o1 hd hi ho hs
    by_cases g0 : (i : Int) < (N.length : Int)
    · have g1 : (i : Int) < 12 := by omega
      have g2 : (0 : Int) ≤ (i : Int) := by omega
      have g3 : o1.length < 8796093022208 := by omega
      have hB : i ≤ 9000000000000000000 := by omega
      obtain ⟨t, ht, hts⟩ := short14 (rdOf ByteArray.empty N i) 20
      rw [show ((20 : Nat) : Int) = 20 from rfl] at ht
      obtain ⟨q, r, hr, hr2, hr3⟩ := ih (i + 1) (o1 ++ [t]) (by omega) (by omega) (by simp [ho]) (fun x hx => by
        rcases List.mem_append.1 hx with hx | hx
        · exact hs x hx
        · rw [List.mem_singleton.1 hx]; exact hts)
      refine ⟨q, r, ev_up 1 (fun k => ?_) hr, hr2, hr3⟩
      show topiarylaw14_small.l0 (k + 1) i N D o1 = _
      rw [topiarylaw14_small.l0, if_pos g0, if_pos g1, if_pos g2, ht, Option.bind_some, if_pos g3, wr_up i hB]
    · obtain ⟨r, hr, hr2⟩ := small1 N D o1 30 0 [] rfl (by omega) rfl (by simp)
      refine ⟨o1, r, ev_up 2 (fun k => ?_) hr, ⟨by omega, hs⟩, hr2⟩
      show topiarylaw14_small.l0 (k + 1 + 1) i N D o1 = _
      rw [topiarylaw14_small.l0, if_neg g0, topiarylaw14_small.j1]; rfl
theorem small14 (N : List ByteArray) (D : List Nod) : ∃ (q : List ByteArray) (r : List Nod), Ev (fun k => topiarylaw14_small.f k N D) (q, r) ∧ (q.length ≤ 12 ∧ ∀ x, x ∈ q → x.size ≤ 20) ∧ r.length ≤ 30 ∧ ∀ x, x ∈ r → x.f3.size ≤ 20 :=
  small0 N D 12 0 [] rfl (by omega) rfl (by simp)
def qN (A B : List ByteArray) : Nat → Nat → Bool
  | 0, _ => true
  | d + 1, i => if (rdOf ByteArray.empty A (i : Int)).toList = (rdOf ByteArray.empty B (i : Int)).toList then qN A B d (i + 1) else false
def nT (x y : Nod) : Bool := (!((x.f0) == (y.f0)) || (!((x.f1) == (y.f1)) || (!((x.f2) == (y.f2)) || (!(((x.f3).toList) == ((y.f3).toList))))))
def qD (A B : List Nod) : Nat → Nat → Bool
  | 0, _ => true
  | d + 1, i => if nT (rd_T41 A (i : Int)) (rd_T41 B (i : Int)) = true then false else qD A B d (i + 1)
theorem qN_self (A : List ByteArray) : ∀ d i, qN A A d i = true
  | 0, _ => rfl
  | d + 1, i => by unfold qN; rw [if_pos rfl]; exact qN_self A d (i + 1)
theorem qD_self (A : List Nod) : ∀ d i, qD A A d i = true
  | 0, _ => rfl
  | d + 1, i => by unfold qD; rw [if_neg (by unfold nT; simp)]; exact qD_self A d (i + 1)
theorem eqN_l (A B : List ByteArray) (hl : A.length = B.length) (hA : A.length ≤ 1000000) : ∀ (d i : Nat), A.length - i = d → i ≤ A.length → Ev (fun k => slices_Equal_string_string.l0 k A B (A.length : Int) i) (qN A B d i) := by
  intro d
  induction d with
  | zero =>
    intro i hd hi
    have g1 : ¬ (i : Int) < (A.length : Int) := by omega
    refine ev_now 1 fun k => ?_
    show slices_Equal_string_string.l0 (k + 1) A B _ i = _
    rw [slices_Equal_string_string.l0, if_neg g1]; rfl
  | succ d ih =>
    intro i hd hi
    have g1 : (i : Int) < (A.length : Int) := by omega
    have g2 : (0 : Int) ≤ (i : Int) := by omega
    have g3 : (i : Int) < (B.length : Int) := by omega
    have hB : i ≤ 9000000000000000000 := by omega
    unfold qN
    by_cases e : (rdOf ByteArray.empty A (i : Int)).toList = (rdOf ByteArray.empty B (i : Int)).toList
    · rw [if_pos e]
      refine ev_up 1 (fun k => ?_) (ih (i + 1) (by omega) (by omega))
      show slices_Equal_string_string.l0 (k + 1) A B _ i = _
      rw [slices_Equal_string_string.l0, if_pos g1, if_pos g2, if_pos g1, if_pos g3, if_pos e, wr_up i hB]
    · rw [if_neg e]
      refine ev_now 1 fun k => ?_
      show slices_Equal_string_string.l0 (k + 1) A B _ i = _
      rw [slices_Equal_string_string.l0, if_pos g1, if_pos g2, if_pos g1, if_pos g3, if_neg e]
theorem eqD_l (A B : List Nod) (hl : A.length = B.length) (hA : A.length ≤ 1000000) : ∀ (d i : Nat), A.length - i = d → i ≤ A.length → Ev (fun k => api_Node.l0 k A B (A.length : Int) i) (qD A B d i) := by
  intro d
  induction d with
  | zero =>
    intro i hd hi
    have g1 : ¬ (i : Int) < (A.length : Int) := by omega
    refine ev_now 1 fun k => ?_
    show api_Node.l0 (k + 1) A B _ i = _
    rw [api_Node.l0, if_neg g1]; rfl
  | succ d ih =>
    intro i hd hi
    have g1 : (i : Int) < (A.length : Int) := by omega
    have g2 : (0 : Int) ≤ (i : Int) := by omega
    have g3 : (i : Int) < (B.length : Int) := by omega
    have hB : i ≤ 9000000000000000000 := by omega
    unfold qD
    by_cases e : nT (rd_T41 A (i : Int)) (rd_T41 B (i : Int)) = true
    · rw [if_pos e]
      refine ev_now 1 fun k => ?_
      show api_Node.l0 (k + 1) A B _ i = _
      unfold nT at e
      rw [api_Node.l0, if_pos g1, if_pos g2, if_pos g1, if_pos g3, if_pos e]
    · rw [if_neg e]
      refine ev_up 1 (fun k => ?_) (ih (i + 1) (by omega) (by omega))
      show api_Node.l0 (k + 1) A B _ i = _
      unfold nT at e
      rw [api_Node.l0, if_pos g1, if_pos g2, if_pos g1, if_pos g3, if_neg e, wr_up i hB]
theorem refD_l (N M : List ByteArray) (A B : List Nod) (hl : A.length = B.length) (hA : A.length ≤ 1000000) : ∀ (d i : Nat), A.length - i = d → i ≤ A.length → Ev (fun k => topiaryref13_Same.l1 k i N A M B) (qD A B d i) := by
  intro d
  induction d with
  | zero =>
    intro i hd hi
    have g1 : ¬ (i : Int) < (A.length : Int) := by omega
    refine ev_now 1 fun k => ?_
    show topiaryref13_Same.l1 (k + 1) i N A M B = _
    rw [topiaryref13_Same.l1, if_neg g1]; rfl
  | succ d ih =>
    intro i hd hi
    have g1 : (i : Int) < (A.length : Int) := by omega
    have g2 : (0 : Int) ≤ (i : Int) := by omega
    have g3 : (i : Int) < (B.length : Int) := by omega
    have hB : i ≤ 9000000000000000000 := by omega
    unfold qD
    by_cases e : nT (rd_T41 A (i : Int)) (rd_T41 B (i : Int)) = true
    · rw [if_pos e]
      refine ev_now 1 fun k => ?_
      show topiaryref13_Same.l1 (k + 1) i N A M B = _
      unfold nT at e
      rw [topiaryref13_Same.l1, if_pos g1, if_pos g2, if_pos g3, if_pos e]
    · rw [if_neg e]
      refine ev_up 1 (fun k => ?_) (ih (i + 1) (by omega) (by omega))
      show topiaryref13_Same.l1 (k + 1) i N A M B = _
      unfold nT at e
      rw [topiaryref13_Same.l1, if_pos g1, if_pos g2, if_pos g3, if_neg e, wr_up i hB]
theorem refN_l (N M : List ByteArray) (A B : List Nod) (hN : N.length = M.length) (hNl : N.length ≤ 1000000) (hl : A.length = B.length) (hA : A.length ≤ 1000000) : ∀ (d i : Nat), N.length - i = d → i ≤ N.length → Ev (fun k => topiaryref13_Same.l0 k i N A M B) (if qN N M d i = true then qD A B A.length 0 else false) := by
  intro d
  induction d with
  | zero =>
    intro i hd hi
    have g1 : ¬ (i : Int) < (N.length : Int) := by omega
    rw [if_pos (show qN N M 0 i = true from rfl)]
    refine ev_up 1 (fun k => ?_) (refD_l N M A B hl hA A.length 0 rfl (Nat.zero_le _))
    show topiaryref13_Same.l0 (k + 1) i N A M B = _
    rw [topiaryref13_Same.l0, if_neg g1]; rfl
  | succ d ih =>
    intro i hd hi
    have g1 : (i : Int) < (N.length : Int) := by omega
    have g2 : (0 : Int) ≤ (i : Int) := by omega
    have g3 : (i : Int) < (M.length : Int) := by omega
    have hB : i ≤ 9000000000000000000 := by omega
    unfold qN
    by_cases e : (rdOf ByteArray.empty N (i : Int)).toList = (rdOf ByteArray.empty M (i : Int)).toList
    · rw [if_pos e]
      refine ev_up 1 (fun k => ?_) (ih (i + 1) (by omega) (by omega))
      show topiaryref13_Same.l0 (k + 1) i N A M B = _
      rw [topiaryref13_Same.l0, if_pos g1, if_pos g2, if_pos g3, if_pos e, wr_up i hB]
    · rw [if_neg e, if_neg (by decide)]
      refine ev_now 1 fun k => ?_
      show topiaryref13_Same.l0 (k + 1) i N A M B = _
      rw [topiaryref13_Same.l0, if_pos g1, if_pos g2, if_pos g3, if_neg e]
def sameV (N : List ByteArray) (A : List Nod) (M : List ByteArray) (B : List Nod) : Bool :=
  if N.length = M.length then (if A.length = B.length then (if qN N M N.length 0 = true then qD A B A.length 0 else false) else false) else false
theorem same_self (N : List ByteArray) (A : List Nod) : sameV N A N A = true := by
  unfold sameV; rw [if_pos rfl, if_pos rfl, if_pos (qN_self _ _ _)]; exact qD_self _ _ _
theorem canon_same (N M : List ByteArray) (A B : List Nod) (hN : N.length ≤ 1000000) (hA : A.length ≤ 1000000) : Ev (fun k => canon_Same.f k N A M B) (sameV N A M B) := by
  unfold sameV
  by_cases h1 : N.length = M.length
  · have h1' : (N.length : Int) = (M.length : Int) := by omega
    obtain ⟨K1, hK1⟩ := eqN_l N M h1 hN N.length 0 rfl (Nat.zero_le _)
    rw [if_pos h1]
    by_cases h2 : A.length = B.length
    · have h2' : (A.length : Int) = (B.length : Int) := by omega
      obtain ⟨K2, hK2⟩ := eqD_l A B h2 hA A.length 0 rfl (Nat.zero_le _)
      rw [if_pos h2]
      refine ⟨K1 + K2, fun k hk => ?_⟩
      have e1 : slices_Equal_string_string.l0 k N M (N.length : Int) 0 = some (qN N M N.length 0) := hK1 k (by omega)
      have e2 : api_Node.l0 k A B (A.length : Int) 0 = some (qD A B A.length 0) := hK2 k (by omega)
      show canon_Same.f k N A M B = _
      unfold canon_Same.f slices_Equal_string_string.f api_Node.f
      rw [if_pos h1', e1, Option.bind_some, if_pos h2', e2]
      by_cases q : qN N M N.length 0 = true
      · rw [if_pos q, if_pos q]; rfl
      · rw [if_neg q, if_neg q]
    · have h2' : ¬ (A.length : Int) = (B.length : Int) := by omega
      rw [if_neg h2]
      refine ⟨K1, fun k hk => ?_⟩
      have e1 : slices_Equal_string_string.l0 k N M (N.length : Int) 0 = some (qN N M N.length 0) := hK1 k (by omega)
      show canon_Same.f k N A M B = _
      unfold canon_Same.f slices_Equal_string_string.f api_Node.f
      rw [if_pos h1', e1, Option.bind_some, if_neg h2']
      split <;> rfl
  · have h1' : ¬ (N.length : Int) = (M.length : Int) := by omega
    rw [if_neg h1]
    refine ⟨0, fun k hk => ?_⟩
    show canon_Same.f k N A M B = _
    unfold canon_Same.f slices_Equal_string_string.f
    rw [if_neg h1', Option.bind_some, if_neg (by decide)]
theorem ref_same (N M : List ByteArray) (A B : List Nod) (hN : N.length ≤ 1000000) (hA : A.length ≤ 1000000) : Ev (fun k => topiaryref13_Same.f k N A M B) (sameV N A M B) := by
  unfold sameV
  by_cases h1 : N.length = M.length
  · have h1' : (N.length : Int) = (M.length : Int) := by omega
    rw [if_pos h1]
    by_cases h2 : A.length = B.length
    · have h2' : ((A.length : Int) != (B.length : Int)) = false := by rw [h2]; simp
      obtain ⟨K, hK⟩ := refN_l N M A B h1 hN h2 hA N.length 0 rfl (Nat.zero_le _)
      rw [if_pos h2]
      refine ⟨K + 1, fun k hk => ?_⟩
      obtain ⟨k, rfl⟩ : ∃ j, k = j + 1 := ⟨k - 1, by omega⟩
      show topiaryref13_Same.f _ N A M B = _
      unfold topiaryref13_Same.f
      rw [if_pos h1', h2', topiaryref13_Same.j0, if_neg (by decide)]
      exact hK k (by omega)
    · have h2' : ((A.length : Int) != (B.length : Int)) = true := by simp; omega
      rw [if_neg h2]
      refine ev_now 1 fun k => ?_
      show topiaryref13_Same.f _ N A M B = _
      unfold topiaryref13_Same.f
      rw [if_pos h1', h2', topiaryref13_Same.j0, if_pos rfl]
  · have h1' : ¬ (N.length : Int) = (M.length : Int) := by omega
    rw [if_neg h1]
    refine ev_now 1 fun k => ?_
    show topiaryref13_Same.f _ N A M B = _
    unfold topiaryref13_Same.f
    rw [if_neg h1', topiaryref13_Same.j0, if_pos rfl]
end Go.Proofs.YtlhhhlimjajnlaaGreat.P14
end
section
set_option linter.unusedVariables false
set_option linter.unusedSimpArgs false
namespace Go.Proofs.YtlhhhlimjajnlaaGreat.Pure
open Go.RowKit Go.Proofs.YtlhhhlimjajnlaaGreat Go.Proofs.YtlhhhlimjajnlaaGreat.Q Go.Proofs.YtlhhhlimjajnlaaGreatW.PrintWords Go.Proofs.YtlhhhlimjajnlaaGreat.X Go.Proofs.YtlhhhlimjajnlaaGreat.P14
theorem CanonSame (N0 : List ByteArray) (D0 : List Nod) (N1 : List ByteArray) (D1 : List Nod) : ∃ k, topiarylaw14_CanonSame.f k N0 D0 N1 D1 = some true := by
  obtain ⟨n, d, ⟨K1, h1⟩, ⟨hn, _⟩, hd, _⟩ := small14 N0 D0
  obtain ⟨m, e, ⟨K2, h2⟩, _, _, _⟩ := small14 N1 D1
  obtain ⟨K3, h3⟩ := canon_same n m d e (by omega) (by omega)
  obtain ⟨K4, h4⟩ := ref_same n m d e (by omega) (by omega)
  obtain ⟨K5, h5⟩ := canon_same n n d d (by omega) (by omega)
  refine ⟨K1 + K2 + K3 + K4 + K5, ?_⟩
  have e1 := h1 (K1 + K2 + K3 + K4 + K5) (by omega)
  have e2 := h2 (K1 + K2 + K3 + K4 + K5) (by omega)
  have e3 := h3 (K1 + K2 + K3 + K4 + K5) (by omega)
  have e4 := h4 (K1 + K2 + K3 + K4 + K5) (by omega)
  have e5 := h5 (K1 + K2 + K3 + K4 + K5) (by omega)
  simp only at e1 e2 e3 e4 e5
  unfold topiarylaw14_CanonSame.f
  rw [awake14, Option.bind_some, e1, Option.bind_some, e2, Option.bind_some, if_pos rfl, e3, Option.bind_some, e4, Option.bind_some, if_pos (by simp), e5, same_self]
  rfl
end Go.Proofs.YtlhhhlimjajnlaaGreat.Pure
end
