/- Parts of the proof of canonTrees_holds, kept and merged by a program of mine (wip/tools/slim.py) out of my texts: P14s -/
import Derived.Test.YtlhhhlimjajnlaaGreatSPt41
import Derived.Test.YtlhhhlimjajnlaaGreatSPt43
import Derived.Test.YtlhhhlimjajnlaaGreatSPt24
import Derived.Test.YtlhhhlimjajnlaaGreatSPt9
section
set_option linter.unusedVariables false
set_option linter.unusedSimpArgs false
namespace Go.Proofs.YtlhhhlimjajnlaaGreat.P14
open Go.RowKit Go.Proofs.YtlhhhlimjajnlaaGreat Go.Proofs.YtlhhhlimjajnlaaGreat.Q Go.Proofs.YtlhhhlimjajnlaaGreatW.PrintWords Go.Proofs.YtlhhhlimjajnlaaGreat.X
theorem ev_now {α : Type} {g : Nat → Option α} {r : α} (n : Nat) (h : ∀ k, g (k + n) = some r) : Ev g r := ⟨n, fun k hk => by rw [show k = (k - n) + n from by omega]; exact h _⟩
theorem ev_up {α : Type} {g f : Nat → Option α} {r : α} (n : Nat) (h : ∀ k, g (k + n) = f k) (e : Ev f r) : Ev g r := by
 obtain ⟨K, hK⟩ := e
 exact ⟨K + n, fun k hk => by rw [show k = (k - n) + n from by omega, h]; exact hK _ (by omega)⟩
theorem wr_up (i : Nat) (h : i ≤ 9000000000000000000) : wrap64 ((i : Int) + 1) = ((i + 1 : Nat) : Int) := by unfold wrap64; omega
theorem short14 (s : ByteArray) (n : Nat) : ∃ t : ByteArray, L4_short.f s n = some t ∧ t.size ≤ n := by
 unfold L4_short.f
 by_cases h : (s.size : Int) > n
 ·rw [if_pos h, if_pos (by omega), if_pos (by omega)]
  refine ⟨_, rfl, ?_⟩
  rw [Lib.size_eq, Lib.extract_data, List.length_take, List.length_drop]; omega
 ·rw [if_neg h]
  exact ⟨s, rfl, by omega⟩
theorem small1 (N : List ByteArray) (D : List Nod) (o1 : List ByteArray) : ∀ (d i : Nat) (o2 : List Nod), 30 - i = d → i ≤ 30 → o2.length = i → (∀ x, x ∈ o2 → x.f3.size ≤ 20) → ∃ r : List Nod, Ev (fun k => L4_small.l1 k i N D o1 o2) (o1, r) ∧ r.length ≤ 30 ∧ ∀ x, x ∈ r → x.f3.size ≤ 20 := by
 intro d
 induction d with
 | zero =>
  intro i o2 hd hi ho hs
  refine ⟨o2, ev_now 1 fun k => ?_, by omega, hs⟩
  show L4_small.l1 (k + 1) i N D o1 o2 = _
  have g1 : ¬ (i : Int) < 30 := by omega
  rw [L4_small.l1, if_neg g1]
  split <;> rfl
 | succ d ih =>
  intro i o2 hd hi ho hs
  by_cases g0 : (i : Int) < (D.length : Int)
  ·have g1 : (i : Int) < 30 := by omega
   have g2 : (0 : Int) ≤ (i : Int) := by omega
   have g3 : o2.length < 3518437208883 := by omega
   have hB : i ≤ 9000000000000000000 := by omega
   obtain ⟨t, ht, hts⟩ := short14 (rd_T41 D i).f3 20
   rw [show ((20 : Nat) : Int) = 20 from rfl] at ht
   obtain ⟨r, hr, hr2, hr3⟩ := ih (i + 1) (o2 ++ [⟨(rd_T41 D i).f0, (rd_T41 D i).f1, (rd_T41 D i).f2, t⟩]) (by omega) (by omega) (by simp [ho]) (fun x hx => by
    rcases List.mem_append.1 hx with hx | hx
    ·exact hs x hx
    ·rw [List.mem_singleton.1 hx]; exact hts)
   refine ⟨r, ev_up 1 (fun k => ?_) hr, hr2, hr3⟩
   show L4_small.l1 (k + 1) i N D o1 o2 = _
   rw [L4_small.l1, if_pos g0, if_pos g1, if_pos g2, ht, Option.bind_some, if_pos g3, wr_up i hB]
  ·refine ⟨o2, ev_now 1 fun k => ?_, by omega, hs⟩
   show L4_small.l1 (k + 1) i N D o1 o2 = _
   rw [L4_small.l1, if_neg g0]
theorem small0 (N : List ByteArray) (D : List Nod) : ∀ (d i : Nat) (o1 : List ByteArray), 12 - i = d → i ≤ 12 → o1.length = i → (∀ x, x ∈ o1 → x.size ≤ 20) → ∃ (q : List ByteArray) (r : List Nod), Ev (fun k => L4_small.l0 k i N D o1) (q, r) ∧ (q.length ≤ 12 ∧ ∀ x, x ∈ q → x.size ≤ 20) ∧ r.length ≤ 30 ∧ ∀ x, x ∈ r → x.f3.size ≤ 20 := by
 intro d
 induction d with
 | zero =>
  intro i o1 hd hi ho hs
  obtain ⟨r, hr, hr2⟩ := small1 N D o1 30 0 [] rfl (by omega) rfl (by simp)
  refine ⟨o1, r, ev_up 2 (fun k => ?_) hr, ⟨by omega, hs⟩, hr2⟩
  show L4_small.l0 (k + 1 + 1) i N D o1 = _
  have g1 : ¬ (i : Int) < 12 := by omega
  rw [L4_small.l0, if_neg g1]
  split <;> (rw [L4_small.j1]; rfl)
 | succ d ih =>
  intro i o1 hd hi ho hs
  by_cases g0 : (i : Int) < (N.length : Int)
  ·have g1 : (i : Int) < 12 := by omega
   have g2 : (0 : Int) ≤ (i : Int) := by omega
   have g3 : o1.length < 8796093022208 := by omega
   have hB : i ≤ 9000000000000000000 := by omega
   obtain ⟨t, ht, hts⟩ := short14 (rdOf ByteArray.empty N i) 20
   rw [show ((20 : Nat) : Int) = 20 from rfl] at ht
   obtain ⟨q, r, hr, hr2, hr3⟩ := ih (i + 1) (o1 ++ [t]) (by omega) (by omega) (by simp [ho]) (fun x hx => by
    rcases List.mem_append.1 hx with hx | hx
    ·exact hs x hx
    ·rw [List.mem_singleton.1 hx]; exact hts)
   refine ⟨q, r, ev_up 1 (fun k => ?_) hr, hr2, hr3⟩
   show L4_small.l0 (k + 1) i N D o1 = _
   rw [L4_small.l0, if_pos g0, if_pos g1, if_pos g2, ht, Option.bind_some, if_pos g3, wr_up i hB]
  ·obtain ⟨r, hr, hr2⟩ := small1 N D o1 30 0 [] rfl (by omega) rfl (by simp)
   refine ⟨o1, r, ev_up 2 (fun k => ?_) hr, ⟨by omega, hs⟩, hr2⟩
   show L4_small.l0 (k + 1 + 1) i N D o1 = _
   rw [L4_small.l0, if_neg g0, L4_small.j1]; rfl
theorem small14 (N : List ByteArray) (D : List Nod) : ∃ (q : List ByteArray) (r : List Nod), Ev (fun k => L4_small.f k N D) (q, r) ∧ (q.length ≤ 12 ∧ ∀ x, x ∈ q → x.size ≤ 20) ∧ r.length ≤ 30 ∧ ∀ x, x ∈ r → x.f3.size ≤ 20 :=
 small0 N D 12 0 [] rfl (by omega) rfl (by simp)
end Go.Proofs.YtlhhhlimjajnlaaGreat.P14
end
