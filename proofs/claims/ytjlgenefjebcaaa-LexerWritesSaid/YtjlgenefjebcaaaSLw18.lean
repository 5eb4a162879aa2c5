/- Parts of the proof of lexerWrites_holds, kept and merged by a program of mine (wip/tools/slim.py) out of my texts: P11a -/
import Derived.Test.YtjlgenefjebcaaaSLw4
import Derived.Test.YtjlgenefjebcaaaSLw5
section
set_option linter.unusedVariables false
set_option linter.unusedSimpArgs false
namespace Go.Proofs.Ytjlgenefjebcaaa.P11
open Go Go.RowKit Go.Proofs.Ytjlgenefjebcaaa Go.Proofs.Ytjlgenefjebcaaa.Q Go.Proofs.YtjlgenefjebcaaaW.PrintWords
theorem len_data (s : ByteArray) : s.data.toList.length = s.size := (Lib.size_eq s).symm
theorem wr (n : Int) (h0 : -9223372036854775808 ≤ n) (h1 : n ≤ 9223372036854775807) : wrap64 n = n := by unfold wrap64; omega
theorem point_f (c : Int) : topiaryref11_point.f c = some (pointB c) := by
  unfold topiaryref11_point.f pointB
  repeat' split
  all_goals
    congr 1
    first | rfl | (rw [Bool.eq_iff_iff]; simp; omega) | (symm; simp; omega)
theorem allowed_f (c : Int) : topiaryref11_Allowed.f c = some (allowedB c) := by
  unfold topiaryref11_Allowed.f allowedB pointB
  repeat' split
  all_goals
    congr 1
    rw [Bool.eq_iff_iff]
    simp
    omega
theorem str_nums (l : List Int) : strOfNums l = ⟨(l.map byteI).toArray⟩ := rfl
theorem encode_f (c : Int) : topiaryref11_Encode.f c = some ⟨(encL c).toArray⟩ := by
  unfold topiaryref11_Encode.f
  rw [point_f, Option.bind_some]
  unfold encL
  by_cases hp : pointB c = true
  · have hb : 0 ≤ c ∧ c ≤ 1114111 := by unfold pointB at hp; simp at hp; omega
    obtain ⟨n, rfl⟩ := Int.eq_ofNat_of_zero_le hb.1
    rw [if_pos hp, if_pos hp]
    simp only [str_nums, List.map_cons, List.map_nil]
    simp only [Int.tdiv_eq_ediv_of_nonneg (show (0 : Int) ≤ (n : Int) from by omega), Int.tmod_eq_emod_of_nonneg (show (0 : Int) ≤ (n : Int) from by omega), Int.tdiv_eq_ediv_of_nonneg (show (0 : Int) ≤ (n : Int) % 4096 from by omega), Int.tdiv_eq_ediv_of_nonneg (show (0 : Int) ≤ (n : Int) % 262144 from by omega)]
    by_cases h1 : (n : Int) ≤ 127
    · rw [if_pos h1, if_pos (show (n : Int) < 128 by omega)]
      congr 3
      rw [show ((n : Int)) % 256 = n from by omega]
    rw [if_neg h1, if_neg (show ¬ (n : Int) < 128 by omega)]
    by_cases h2 : (n : Int) ≤ 2047
    · rw [if_pos h2, if_pos (show (n : Int) < 2048 by omega)]
      rw [wr ((n : Int) / 64) (by omega) (by omega), wr (192 + (n : Int) / 64) (by omega) (by omega), wr (128 + (n : Int) % 64) (by omega) (by omega), show (192 + (n : Int) / 64) % 256 = 192 + n / 64 from by omega, show (128 + (n : Int) % 64) % 256 = 128 + n % 64 from by omega]
    rw [if_neg h2, if_neg (show ¬ (n : Int) < 2048 by omega)]
    by_cases h3 : (n : Int) ≤ 65535
    · rw [if_pos h3, if_pos (show (n : Int) < 65536 by omega)]
      rw [wr ((n : Int) / 4096) (by omega) (by omega), wr (224 + (n : Int) / 4096) (by omega) (by omega), wr ((n : Int) % 4096 / 64) (by omega) (by omega), wr (128 + (n : Int) % 4096 / 64) (by omega) (by omega), wr (128 + (n : Int) % 64) (by omega) (by omega), show (224 + (n : Int) / 4096) % 256 = 224 + n / 4096 from by omega, show (128 + (n : Int) % 4096 / 64) % 256 = 128 + n / 64 % 64 from by omega, show (128 + (n : Int) % 64) % 256 = 128 + n % 64 from by omega]
    rw [if_neg h3, if_neg (show ¬ (n : Int) < 65536 by omega)]
    rw [wr ((n : Int) / 262144) (by omega) (by omega), wr (240 + (n : Int) / 262144) (by omega) (by omega), wr ((n : Int) % 262144 / 4096) (by omega) (by omega), wr (128 + (n : Int) % 262144 / 4096) (by omega) (by omega), wr ((n : Int) % 4096 / 64) (by omega) (by omega), wr (128 + (n : Int) % 4096 / 64) (by omega) (by omega), wr (128 + (n : Int) % 64) (by omega) (by omega), show (240 + (n : Int) / 262144) % 256 = 240 + n / 262144 from by omega, show (128 + (n : Int) % 262144 / 4096) % 256 = 128 + n / 4096 % 64 from by omega, show (128 + (n : Int) % 4096 / 64) % 256 = 128 + n / 64 % 64 from by omega, show (128 + (n : Int) % 64) % 256 = 128 + n % 64 from by omega]
  · rw [if_neg hp, if_neg hp]
def begB (l : List UInt8) (i : Int) (t : List UInt8) : Bool := decide (0 ≤ i ∧ i ≤ l.length) && t.isPrefixOf (l.drop i.toNat)
theorem prefix_take (l t : List UInt8) : t.isPrefixOf l = (decide (t.length ≤ l.length) && (l.take t.length == t)) := (Lib.hasPrefix_of_take l t).symm
theorem begins_f (s : ByteArray) (i : Int) (t : ByteArray) (hs : s.size ≤ 4294967296) (ht : t.size ≤ 4294967296) : topiaryref11_begins.f s i t = some (begB s.data.toList i t.data.toList) := by
  unfold topiaryref11_begins.f begB
  have hl := len_data s
  have hl2 := len_data t
  by_cases h0 : i ≥ 0
  · rw [if_pos h0]
    by_cases h1 : i ≤ (s.size : Int)
    · rw [if_pos h1, wr _ (by omega) (by omega)]
      have hd : decide (0 ≤ i ∧ i ≤ (s.data.toList.length : Int)) = true := by simp; omega
      rw [hd, Bool.true_and, prefix_take, List.length_drop, hl2, hl]
      by_cases h2 : (s.size : Int) - i ≥ (t.size : Int)
      · rw [if_pos h2, if_pos h0, wr _ (by omega) (by omega), if_pos (by omega), if_pos (by omega)]
        have hd2 : decide (t.size ≤ s.size - i.toNat) = true := by simp; omega
        rw [hd2, Bool.true_and, Lib.extract_toList, Lib.toList_data, show (i + (t.size : Int)).toNat - i.toNat = t.size from by omega]
      · rw [if_neg h2]
        have hd2 : decide (t.size ≤ s.size - i.toNat) = false := by simp; omega
        rw [hd2, Bool.false_and]
    · rw [if_neg h1]
      have hd : decide (0 ≤ i ∧ i ≤ (s.data.toList.length : Int)) = false := by simp; omega
      rw [hd, Bool.false_and]
  · rw [if_neg h0]
    have hd : decide (0 ≤ i ∧ i ≤ (s.data.toList.length : Int)) = false := by simp; omega
    rw [hd, Bool.false_and]
theorem bt_get (s : ByteArray) (n : Nat) (h : n < s.size) : bt s (n : Int) = (s[n].toNat : Int) := by
  have := bt_at s (n : Int) (by rw [Int.toNat_natCast]; exact h)
  rw [← this]; rfl
theorem drop_cons (s : ByteArray) (n : Nat) (hn : n < s.size) : s.data.toList.drop n = s[n] :: s.data.toList.drop (n + 1) := by
  have h : n < s.data.toList.length := by rw [← Lib.size_eq]; exact hn
  rw [List.drop_eq_getElem_cons h]; rfl
end Go.Proofs.Ytjlgenefjebcaaa.P11
end
