/- Parts of the proof of canonBack_holds, kept and merged by a program of mine (wip/tools/slim.py) out of my texts: P14y -/
import Derived.Test.YtlhhhlimjajnlaaGreatSBk38
import Derived.Test.YtlhhhlimjajnlaaGreatSBk39
import Derived.Test.YtlhhhlimjajnlaaGreatSBk40
import Derived.Test.YtlhhhlimjajnlaaGreatSBk27
import Derived.Test.YtlhhhlimjajnlaaGreatSBk34
section
set_option linter.unusedVariables false
set_option linter.unusedSimpArgs false
namespace Go.Proofs.YtlhhhlimjajnlaaGreat.P14
open Go.RowKit Go.Proofs.YtlhhhlimjajnlaaGreat Go.Proofs.YtlhhhlimjajnlaaGreat.Q Go.Proofs.YtlhhhlimjajnlaaGreatW.PrintWords Go.Proofs.YtlhhhlimjajnlaaGreat.X Go.Proofs.YtlhhhlimjajnlaaGreat.Ck Go.Proofs.YtlhhhlimjajnlaaGreat.P12 Go.Proofs.YtlhhhlimjajnlaaGreat.R13
theorem write_out {N : List ByteArray} {D : List Nod} (h : checkV N D = 0) (hl : (endW N D).out.length ≤ 65536) : writeV N D = (bytesL (endW N D).out, 0) := by
 unfold writeV
 rw [if_pos h, if_neg (by omega)]; rfl
theorem canon_out {N : List ByteArray} {D : List Nod} (h : checkV N D = 0) (hl : (endW N D).out.length ≤ 65536) (hs1 : ∀ x, x ∈ N → x.size ≤ 1000000000) (hs2 : ∀ x, x ∈ D → x.f3.size ≤ 1000000000) (s : ByteArray) (hs : s.size ≤ 65536) (hp : parseV s = ((N, D), 0)) : canon_Canon.f s = some (bytesL (endW N D).out, 0) := by
 have hw : smallW N D = true := by
  unfold smallW
  rw [Bool.and_eq_true, List.all_eq_true, List.all_eq_true]
  exact ⟨fun x hx => decide_eq_true (hs2 x hx), fun x hx => decide_eq_true (hs1 x hx)⟩
 unfold canon_Canon.f parser_Parse.f
 rw [if_pos (by omega), hp, Option.bind_some]
 simp only
 rw [if_pos trivial, canon_Write.f, if_pos hw, write_out h hl]; rfl
theorem check_or (N : List ByteArray) (D : List Nod) : checkV N D = 0 ∨ writeV N D = (⟨#[]⟩, 1) := by
 by_cases h : checkV N D = 0
 ·exact .inl h
 ·right
  unfold writeV
  rw [if_neg h]
  have : checkV N D = 1 := by
   unfold checkV at h ⊢
   by_cases c1 : D.length = 0 ∨ 5000 < D.length ∨ 1000 < N.length
   ·rw [if_pos c1]
   rw [if_neg c1] at h ⊢
   by_cases c2 : (nodesC N.length D 0 (zeroC D.length)).isNone = true
   ·rw [if_pos c2]
   rw [if_neg c2] at h ⊢
   by_cases c3 : namesC N D = true
   ·exact absurd (if_pos c3) h
   ·rw [if_neg c3]
  rw [this]
theorem back_facts {N : List ByteArray} {D : List Nod} (hn : ∀ x, x ∈ N → x.size ≤ 20) (hd1 : D.length ≤ 30) (hd : ∀ x, x ∈ D → x.f3.size ≤ 20) : writeV N D = (⟨#[]⟩, 1) ∨ ∃ s, writeV N D = (s, 0) ∧ parseV s = ((N, D), 0) ∧ (lexV s).1.length ≤ 2900 ∧ tsize (lexV s).1 ≤ 60000 ∧ canon_Canon.f s = some (s, 0) := by
 rcases (check_or N D).symm with h | h
 ·exact .inl h
 right
 have hsum := sum_le N 168 D fun x hx => by
  unfold wt nml
  have h1 := hd x hx
  rw [Lib.size_eq] at h1
  have h2 : (N.getD x.f1.toNat ⟨#[]⟩).data.toList.length ≤ 20 := by
   rw [List.getD_eq_getElem?_getD]
   cases hc : N[x.f1.toNat]? with
   | none => exact Nat.zero_le _
   | some y =>
    have := hn y (List.mem_of_getElem? hc)
    rw [Lib.size_eq] at this; exact this
  omega
 have hl : (endW N D).out.length ≤ 5040 := Nat.le_trans (end_len N D) (by omega)
 obtain ⟨h1, h2⟩ := parse_write h (by omega)
 have hsz : (bytesL (endW N D).out).size ≤ 5040 := by rw [Lib.size_eq]; exact hl
 have ht := lexV_tsize (bytesL (endW N D).out)
 exact ⟨_, write_out h (by omega), h1, by omega, by omega, canon_out h (by omega) (fun x hx => Nat.le_trans (hn x hx) (by omega)) (fun x hx => Nat.le_trans (hd x hx) (by omega)) _ (by omega) h1⟩
end Go.Proofs.YtlhhhlimjajnlaaGreat.P14
end
