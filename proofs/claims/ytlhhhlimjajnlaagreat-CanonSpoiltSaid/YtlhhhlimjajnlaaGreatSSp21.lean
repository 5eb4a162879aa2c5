/- Parts of the proof of canonSpoilt_holds, kept and merged by a program of mine (wip/tools/slim.py) out of my texts: P11a -/
import Derived.Test.YtlhhhlimjajnlaaGreatSSp4
import Derived.Test.YtlhhhlimjajnlaaGreatSSp5
section
set_option linter.unusedVariables false
set_option linter.unusedSimpArgs false
namespace Go.Proofs.YtlhhhlimjajnlaaGreat.P11
open Go Go.RowKit Go.Proofs.YtlhhhlimjajnlaaGreat Go.Proofs.YtlhhhlimjajnlaaGreat.Q Go.Proofs.YtlhhhlimjajnlaaGreatW.PrintWords
theorem len_data (s : ByteArray) : s.data.toList.length = s.size := (Lib.size_eq s).symm
theorem wr (n : Int) (h0 : -9223372036854775808 ≤ n) (h1 : n ≤ 9223372036854775807) : wrap64 n = n := by unfold wrap64; omega
theorem point_f (c : Int) : R1_point.f c = some (pointB c) := by
 unfold R1_point.f pointB
 repeat' split
 all_goals
  congr 1
  first | rfl | (rw [Bool.eq_iff_iff]; simp; omega) | (symm; simp; omega)
theorem allowed_f (c : Int) : R1_Allowed.f c = some (allowedB c) := by
 unfold R1_Allowed.f allowedB pointB
 repeat' split
 all_goals
  congr 1
  rw [Bool.eq_iff_iff]
  simp
  omega
theorem str_nums (l : List Int) : strOfNums l = ⟨(l.map byteI).toArray⟩ := rfl
theorem encode_f (c : Int) : R1_Encode.f c = some ⟨(encL c).toArray⟩ := by
 unfold R1_Encode.f
 rw [point_f, Option.bind_some]
 unfold encL
 by_cases hp : pointB c = true
 ·have hb : 0 ≤ c ∧ c ≤ 1114111 := by unfold pointB at hp; simp at hp; omega
  obtain ⟨n, rfl⟩ := Int.eq_ofNat_of_zero_le hb.1
  rw [if_pos hp, if_pos hp]
  simp only [str_nums, List.map_cons, List.map_nil]
  simp only [Int.tdiv_eq_ediv_of_nonneg (show (0 : Int) ≤ (n : Int) from by omega), Int.tmod_eq_emod_of_nonneg (show (0 : Int) ≤ (n : Int) from by omega), Int.tdiv_eq_ediv_of_nonneg (show (0 : Int) ≤ (n : Int) % 4096 from by omega), Int.tdiv_eq_ediv_of_nonneg (show (0 : Int) ≤ (n : Int) % 262144 from by omega)]
  by_cases h1 : (n : Int) ≤ 127
  ·rw [if_pos h1, if_pos (show (n : Int) < 128 by omega)]
   congr 3
   rw [show ((n : Int)) % 256 = n from by omega]
  rw [if_neg h1, if_neg (show ¬ (n : Int) < 128 by omega)]
  by_cases h2 : (n : Int) ≤ 2047
  ·rw [if_pos h2, if_pos (show (n : Int) < 2048 by omega)]
   rw [wr ((n : Int) / 64) (by omega) (by omega), wr (192 + (n : Int) / 64) (by omega) (by omega), wr (128 + (n : Int) % 64) (by omega) (by omega), show (192 + (n : Int) / 64) % 256 = 192 + n / 64 from by omega, show (128 + (n : Int) % 64) % 256 = 128 + n % 64 from by omega]
  rw [if_neg h2, if_neg (show ¬ (n : Int) < 2048 by omega)]
  by_cases h3 : (n : Int) ≤ 65535
  ·rw [if_pos h3, if_pos (show (n : Int) < 65536 by omega)]
   rw [wr ((n : Int) / 4096) (by omega) (by omega), wr (224 + (n : Int) / 4096) (by omega) (by omega), wr ((n : Int) % 4096 / 64) (by omega) (by omega), wr (128 + (n : Int) % 4096 / 64) (by omega) (by omega), wr (128 + (n : Int) % 64) (by omega) (by omega), show (224 + (n : Int) / 4096) % 256 = 224 + n / 4096 from by omega, show (128 + (n : Int) % 4096 / 64) % 256 = 128 + n / 64 % 64 from by omega, show (128 + (n : Int) % 64) % 256 = 128 + n % 64 from by omega]
  rw [if_neg h3, if_neg (show ¬ (n : Int) < 65536 by omega)]
  rw [wr ((n : Int) / 262144) (by omega) (by omega), wr (240 + (n : Int) / 262144) (by omega) (by omega), wr ((n : Int) % 262144 / 4096) (by omega) (by omega), wr (128 + (n : Int) % 262144 / 4096) (by omega) (by omega), wr ((n : Int) % 4096 / 64) (by omega) (by omega), wr (128 + (n : Int) % 4096 / 64) (by omega) (by omega), wr (128 + (n : Int) % 64) (by omega) (by omega), show (240 + (n : Int) / 262144) % 256 = 240 + n / 262144 from by omega, show (128 + (n : Int) % 262144 / 4096) % 256 = 128 + n / 4096 % 64 from by omega, show (128 + (n : Int) % 4096 / 64) % 256 = 128 + n / 64 % 64 from by omega, show (128 + (n : Int) % 64) % 256 = 128 + n % 64 from by omega]
 ·rw [if_neg hp, if_neg hp]
def begB (l : List UInt8) (i : Int) (t : List UInt8) : Bool := decide (0 ≤ i ∧ i ≤ l.length) && t.isPrefixOf (l.drop i.toNat)
theorem prefix_take (l t : List UInt8) : t.isPrefixOf l = (decide (t.length ≤ l.length) && (l.take t.length == t)) := (Lib.hasPrefix_of_take l t).symm
theorem begins_f (s : ByteArray) (i : Int) (t : ByteArray) (hs : s.size ≤ 4294967296) (ht : t.size ≤ 4294967296) : R1_begins.f s i t = some (begB s.data.toList i t.data.toList) := by
 unfold R1_begins.f begB
 have hl := len_data s
 have hl2 := len_data t
 by_cases h0 : i ≥ 0
 ·rw [if_pos h0]
  by_cases h1 : i ≤ (s.size : Int)
  ·rw [if_pos h1, wr _ (by omega) (by omega)]
   have hd : decide (0 ≤ i ∧ i ≤ (s.data.toList.length : Int)) = true := by simp; omega
   rw [hd, Bool.true_and, prefix_take, List.length_drop, hl2, hl]
   by_cases h2 : (s.size : Int) - i ≥ (t.size : Int)
   ·rw [if_pos h2, if_pos h0, wr _ (by omega) (by omega), if_pos (by omega), if_pos (by omega)]
    have hd2 : decide (t.size ≤ s.size - i.toNat) = true := by simp; omega
    rw [hd2, Bool.true_and, Lib.extract_toList, Lib.toList_data, show (i + (t.size : Int)).toNat - i.toNat = t.size from by omega]
   ·rw [if_neg h2]
    have hd2 : decide (t.size ≤ s.size - i.toNat) = false := by simp; omega
    rw [hd2, Bool.false_and]
  ·rw [if_neg h1]
   have hd : decide (0 ≤ i ∧ i ≤ (s.data.toList.length : Int)) = false := by simp; omega
   rw [hd, Bool.false_and]
 ·rw [if_neg h0]
  have hd : decide (0 ≤ i ∧ i ≤ (s.data.toList.length : Int)) = false := by simp; omega
  rw [hd, Bool.false_and]
def d99 (c : Int) : Int := if 65 ≤ c ∧ c ≤ 70 then c - 55 else if 97 ≤ c ∧ c ≤ 102 then c - 87 else if 48 ≤ c ∧ c ≤ 57 then c - 48 else 99
def numGo (base : Int) : Nat → List UInt8 → Int → Int → Int × Int
 | 0, _, _, _ => (0, 0)
 | _ + 1, [], _, _ => (0, 0)
 | j + 1, c :: t, n, i => if c = 59 ∧ 0 < i then (n, i) else if d99 c.toNat ≥ base then (0, 0) else numGo base j t (n * base + d99 c.toNat) (i + 1)
theorem j_steps (k : Nat) (s : ByteArray) (a base n i c : Int) (hc : 0 ≤ c ∧ c ≤ 255) :
 R1_number.j1 (k + 6) s a base n i c false = if d99 c ≥ base then some (0, 0) else R1_number.l0 k s a base (wrap64 (wrap64 (n * base) + d99 c)) (wrap64 (i + 1)) := by
 have w1 : wrap64 (c - 48) = c - 48 := wr _ (by omega) (by omega)
 have w2 : wrap64 (wrap64 (c - 97) + 10) = c - 87 := by rw [wr (c - 97) (by omega) (by omega), wr _ (by omega) (by omega)]; omega
 have w3 : wrap64 (wrap64 (c - 65) + 10) = c - 55 := by rw [wr (c - 65) (by omega) (by omega), wr _ (by omega) (by omega)]; omega
 have w4 : wrap64 (99 : Int) = 99 := wr _ (by omega) (by omega)
 unfold d99
 rw [R1_number.j1, if_neg (by decide)]
 by_cases a1 : c ≥ 48
 ·by_cases a2 : c ≤ 57
  ·rw [if_pos a1, show decide (c ≤ 57) = true from by simpa using a2, R1_number.j2, if_pos rfl, w1, R1_number.j3, if_neg (by omega), R1_number.j4, if_neg (by decide), R1_number.j5, if_neg (by omega), R1_number.j6, if_neg (by decide)]
   rw [if_neg (show ¬ (65 ≤ c ∧ c ≤ 70) by omega), if_neg (show ¬ (97 ≤ c ∧ c ≤ 102) by omega), if_pos (show 48 ≤ c ∧ c ≤ 57 by omega)]
  ·rw [if_pos a1, show decide (c ≤ 57) = false from by simpa using a2, R1_number.j2, if_neg (by decide), R1_number.j3]
   by_cases a3 : c ≥ 97
   ·by_cases a4 : c ≤ 102
    ·rw [if_pos a3, show decide (c ≤ 102) = true from by simpa using a4, R1_number.j4, if_pos rfl, w2, R1_number.j5, if_pos (by omega), show decide (c ≤ 70) = false from by simp; omega, R1_number.j6, if_neg (by decide)]
     rw [if_neg (show ¬ (65 ≤ c ∧ c ≤ 70) by omega), if_pos (show (97 ≤ c ∧ c ≤ 102) by omega)]
    ·rw [if_pos a3, show decide (c ≤ 102) = false from by simpa using a4, R1_number.j4, if_neg (by decide), R1_number.j5, if_pos (by omega), show decide (c ≤ 70) = false from by simp; omega, R1_number.j6, if_neg (by decide)]
     rw [if_neg (show ¬ (65 ≤ c ∧ c ≤ 70) by omega), if_neg (show ¬ (97 ≤ c ∧ c ≤ 102) by omega), if_neg (show ¬ (48 ≤ c ∧ c ≤ 57) by omega)]
   ·rw [if_neg a3, R1_number.j4, if_neg (by decide), R1_number.j5]
    by_cases a5 : c ≥ 65
    ·by_cases a6 : c ≤ 70
     ·rw [if_pos a5, show decide (c ≤ 70) = true from by simpa using a6, R1_number.j6, if_pos rfl, w3]
      rw [if_pos (show (65 ≤ c ∧ c ≤ 70) by omega)]
     ·rw [if_pos a5, show decide (c ≤ 70) = false from by simpa using a6, R1_number.j6, if_neg (by decide)]
      rw [if_neg (show ¬ (65 ≤ c ∧ c ≤ 70) by omega), if_neg (show ¬ (97 ≤ c ∧ c ≤ 102) by omega), if_neg (show ¬ (48 ≤ c ∧ c ≤ 57) by omega)]
    ·rw [if_neg a5, R1_number.j6, if_neg (by decide)]
     rw [if_neg (show ¬ (65 ≤ c ∧ c ≤ 70) by omega), if_neg (show ¬ (97 ≤ c ∧ c ≤ 102) by omega), if_neg (show ¬ (48 ≤ c ∧ c ≤ 57) by omega)]
 ·rw [if_neg a1, R1_number.j2, if_neg (by decide), R1_number.j3, if_neg (by omega), R1_number.j4, if_neg (by decide), R1_number.j5, if_neg (by omega), R1_number.j6, if_neg (by decide)]
  rw [if_neg (show ¬ (65 ≤ c ∧ c ≤ 70) by omega), if_neg (show ¬ (97 ≤ c ∧ c ≤ 102) by omega), if_neg (show ¬ (48 ≤ c ∧ c ≤ 57) by omega)]
theorem bt_get (s : ByteArray) (n : Nat) (h : n < s.size) : bt s (n : Int) = (s[n].toNat : Int) := by
 have := bt_at s (n : Int) (by rw [Int.toNat_natCast]; exact h)
 rw [← this]; rfl
theorem drop_cons (s : ByteArray) (n : Nat) (hn : n < s.size) : s.data.toList.drop n = s[n] :: s.data.toList.drop (n + 1) := by
 have h : n < s.data.toList.length := by rw [← Lib.size_eq]; exact hn
 rw [List.drop_eq_getElem_cons h]; rfl
theorem d99_le (c : Int) (h : 0 ≤ c) : 0 ≤ d99 c ∧ d99 c ≤ 99 := by
 unfold d99
 repeat' split
 all_goals omega
theorem number_l0 (s : ByteArray) (a : Nat) (base : Int) (hb : 0 < base ∧ base ≤ 16) (hs : s.size ≤ 4294967296) (ha : a ≤ s.size) (j : Nat) :
 ∀ (i k : Nat) (n : Int), i + j = 9 → 7 * j + 1 ≤ k → 0 ≤ n → n < 16 ^ i → R1_number.l0 k s a base n i = some (numGo base j (s.data.toList.drop (a + i)) n i) := by
 induction j with
 | zero =>
  intro i k n hi hk h0 h1
  obtain ⟨k, rfl⟩ : ∃ m, k = m + 1 := ⟨k - 1, by omega⟩
  rw [R1_number.l0, if_neg (by omega), numGo]
 | succ j ih =>
  intro i k n hi hk h0 h1
  obtain ⟨k, rfl⟩ : ∃ m, k = m + 7 := ⟨k - 7, by omega⟩
  have hw : wrap64 ((a : Int) + (i : Int)) = ((a + i : Nat) : Int) := by rw [wr _ (by omega) (by omega)]; omega
  rw [R1_number.l0, if_pos (by omega), hw]
  by_cases hlt : a + i < s.size
  ·rw [if_neg (by omega), if_pos (by omega), if_pos (by omega), bt_get s _ hlt, drop_cons s _ hlt]
   obtain ⟨c, hc⟩ : ∃ c, s[a + i] = c := ⟨_, rfl⟩
   rw [hc]
   have hcl := c.toNat_lt
   rw [wr (c.toNat : Int) (by omega) (by omega)]
   have hpow : (16 : Int) ^ i ≤ 4294967296 := by
    have : 16 ^ i ≤ 16 ^ 8 := Nat.pow_le_pow_right (by decide) (by omega)
    have h2 : ((16 ^ i : Nat) : Int) ≤ ((16 ^ 8 : Nat) : Int) := by omega
    simpa using h2
   have hd := d99_le (c.toNat : Int) (by omega)
   have hmul : 0 ≤ n * base ∧ n * base ≤ n * 16 := ⟨Int.mul_nonneg h0 (by omega), Int.mul_le_mul_of_nonneg_left hb.2 h0⟩
   have hstep : d99 (c.toNat : Int) < base → R1_number.l0 k s a base (wrap64 (wrap64 (n * base) + d99 (c.toNat : Int))) (wrap64 ((i : Int) + 1)) = some (numGo base j (s.data.toList.drop (a + i + 1)) (n * base + d99 (c.toNat : Int)) ((i : Int) + 1)) := by
    intro hlt2
    rw [wr (n * base) (by omega) (by omega), wr _ (by omega) (by omega), wr ((i : Int) + 1) (by omega) (by omega)]
    have := ih (i + 1) k (n * base + d99 (c.toNat : Int)) (by omega) (by omega) (by omega) (by rw [Int.pow_succ]; omega)
    rw [show ((i + 1 : Nat) : Int) = (i : Int) + 1 from by omega, show a + (i + 1) = a + i + 1 from by omega] at this
    exact this
   have hj : ¬ (c = 59 ∧ (0 : Int) < (i : Int)) → R1_number.j1 (k + 6) s a base n i (c.toNat : Int) false = some (numGo base (j + 1) (c :: s.data.toList.drop (a + i + 1)) n i) := by
    intro hn
    rw [j_steps _ _ _ _ _ _ _ (by omega), numGo, if_neg hn]
    by_cases hge : d99 (c.toNat : Int) ≥ base
    ·rw [if_pos hge, if_pos hge]
    ·rw [if_neg hge, if_neg hge, hstep (by omega)]
   by_cases h59 : c = 59
   ·subst h59
    rw [if_pos (by rfl)]
    by_cases hip : (i : Int) > 0
    ·rw [show decide ((i : Int) > 0) = true from by simpa using hip, R1_number.j1, if_pos rfl, numGo, if_pos ⟨rfl, hip⟩]
    ·rw [show decide ((i : Int) > 0) = false from by simpa using hip]
     exact hj (fun h => hip h.2)
   ·rw [if_neg (by intro e; exact h59 (UInt8.toNat_inj.1 (by simpa using (by omega : c.toNat = 59))))]
    exact hj (fun h => h59 h.1)
  ·rw [if_pos (by omega), List.drop_of_length_le (by rw [len_data]; omega), numGo]
def numS (l : List UInt8) (i : Int) (base : Int) : Int × Int := numGo base 9 (l.drop i.toNat) 0 0
theorem number_f (s : ByteArray) (a : Int) (base : Int) (hb : 0 < base ∧ base ≤ 16) (hs : s.size ≤ 4294967296) (h0 : 0 ≤ a) (ha : a ≤ s.size) : R1_number.f 64 s a base = some (numS s.data.toList a base) := by
 obtain ⟨n, rfl⟩ := Int.eq_ofNat_of_zero_le h0
 unfold R1_number.f numS
 have := number_l0 s n base hb hs (by omega) 9 0 64 0 rfl (by omega) (by omega) (by decide)
 rw [Int.toNat_natCast]
 exact this
end Go.Proofs.YtlhhhlimjajnlaaGreat.P11
end
