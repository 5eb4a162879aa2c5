/- Parts of the proof of lexerJoins_holds, kept and merged by a program of mine (wip/tools/slim.py) out of my texts: P11a -/
import Derived.Test.YtekkaoenabjeiaaSLexJn4
import Derived.Test.YtekkaoenabjeiaaSLexJn5
section
set_option linter.unusedVariables false
set_option linter.unusedSimpArgs false
namespace Go.Proofs.Ytekkaoenabjeiaa.P11
open Go Go.RowKit Go.Proofs.Ytekkaoenabjeiaa Go.Proofs.Ytekkaoenabjeiaa.Q Go.Proofs.YtekkaoenabjeiaaW.PrintWords
theorem len_data (s : ByteArray) : s.data.toList.length = s.size := (Lib.size_eq s).symm
theorem wr (n : Int) (h0 : -9223372036854775808 ≤ n) (h1 : n ≤ 9223372036854775807) : wrap64 n = n := by unfold wrap64; omega
def begB (l : List UInt8) (i : Int) (t : List UInt8) : Bool := decide (0 ≤ i ∧ i ≤ l.length) && t.isPrefixOf (l.drop i.toNat)
theorem prefix_take (l t : List UInt8) : t.isPrefixOf l = (decide (t.length ≤ l.length) && (l.take t.length == t)) := (Lib.hasPrefix_of_take l t).symm
theorem begins_f (s : ByteArray) (i : Int) (t : ByteArray) (hs : s.size ≤ 4294967296) (ht : t.size ≤ 4294967296) : topiaryref11_begins.f s i t = some (begB s.data.toList i t.data.toList) := by
  unfold topiaryref11_begins.f begB
  have hl := len_data s
  have hl2 := len_data t
  by_cases h0 : i ≥ 0
  · rw [if_pos h0]
    by_cases h1 : i ≤ (s.size : Int)
    · rw [if_pos h1, wr _ (by omega) (by omega)]
      have hd : decide (0 ≤ i ∧ i ≤ (s.data.toList.length : Int)) = true := by simp; omega
      rw [hd, Bool.true_and, prefix_take, List.length_drop, hl2, hl]
      by_cases h2 : (s.size : Int) - i ≥ (t.size : Int)
      · rw [if_pos h2, if_pos h0, wr _ (by omega) (by omega), if_pos (by omega), if_pos (by omega)]
        have hd2 : decide (t.size ≤ s.size - i.toNat) = true := by simp; omega
        rw [hd2, Bool.true_and, Lib.extract_toList, Lib.toList_data, show (i + (t.size : Int)).toNat - i.toNat = t.size from by omega]
      · rw [if_neg h2]
        have hd2 : decide (t.size ≤ s.size - i.toNat) = false := by simp; omega
        rw [hd2, Bool.false_and]
    · rw [if_neg h1]
      have hd : decide (0 ≤ i ∧ i ≤ (s.data.toList.length : Int)) = false := by simp; omega
      rw [hd, Bool.false_and]
  · rw [if_neg h0]
    have hd : decide (0 ≤ i ∧ i ≤ (s.data.toList.length : Int)) = false := by simp; omega
    rw [hd, Bool.false_and]
theorem drop_cons (s : ByteArray) (n : Nat) (hn : n < s.size) : s.data.toList.drop n = s[n] :: s.data.toList.drop (n + 1) := by
  have h : n < s.data.toList.length := by rw [← Lib.size_eq]; exact hn
  rw [List.drop_eq_getElem_cons h]; rfl
end Go.Proofs.Ytekkaoenabjeiaa.P11
end
