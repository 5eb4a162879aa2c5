/- Parts of the proof of parserStands_holds, kept and merged by a program of mine (wip/tools/slim.py) out of my texts: P11n -/
import Derived.Test.YtlhhhlimjajnlaaSPs4
import Derived.Test.YtlhhhlimjajnlaaSPs6
section
set_option linter.unusedVariables false
set_option linter.unusedSimpArgs false
namespace Go.Proofs.Ytlhhhlimjajnlaa.P11n
open Go.RowKit Go.Proofs.Ytlhhhlimjajnlaa Go.Proofs.Ytlhhhlimjajnlaa.Q Go.Proofs.YtlhhhlimjajnlaaW.PrintWords
theorem len_data (s : ByteArray) : s.data.toList.length = s.size := (Lib.size_eq s).symm
theorem wr (n : Int) (h0 : -9223372036854775808 ≤ n) (h1 : n ≤ 9223372036854775807) : wrap64 n = n := by unfold wrap64; omega
theorem drop_cons (s : ByteArray) (n : Nat) (hn : n < s.size) : s.data.toList.drop n = s[n] :: s.data.toList.drop (n + 1) := by
  have h : n < s.data.toList.length := by rw [← Lib.size_eq]; exact hn
  rw [List.drop_eq_getElem_cons h]; rfl
theorem bt_get' (s : ByteArray) (n : Nat) (h : n < s.size) : bt s (n : Int) = (s[n].toNat : Int) := by
  have := bt_at s (n : Int) (by rw [Int.toNat_natCast]; exact h)
  rw [← this]; rfl
theorem bt_get (s : ByteArray) (n : Nat) (h : n < s.size) : bt s (n : Int) = (s[n].toNat : Int) := by
  have := bt_at s (n : Int) (by rw [Int.toNat_natCast]; exact h)
  rw [← this]; rfl
theorem nat_of_bt (s : ByteArray) (n : Nat) (h : n < s.size) (c : UInt8) (hc : s[n] = c) : bt s (n : Int) = (c.toNat : Int) := by rw [bt_get s n h, hc]
set_option maxHeartbeats 4000000 in
theorem ref_name_step (s : ByteArray) (a : Int) (n : Nat) (hs : s.size ≤ 4294967296) (hlt : n < s.size) (c : UInt8) (hc : s[n] = c) (k : Nat) :
    topiaryref11_NameEnd.l0 (k + 2) s a n = if nameB c = true ∨ (moreB c = true ∧ (n : Int) ≠ a) then topiaryref11_NameEnd.l0 k s a ((n + 1 : Nat) : Int) else some (n : Int) := by
  have hw : wrap64 ((n : Int) + 1) = ((n + 1 : Nat) : Int) := by rw [wr _ (by omega) (by omega)]; omega
  rw [topiaryref11_NameEnd.l0, if_pos (by omega), show decide ((n : Int) < (s.size : Int)) = true from by simp; omega, topiaryref11_NameEnd.j1, if_pos rfl, if_pos (by omega), if_pos (by omega), nat_of_bt s n hlt c hc, hw]
  have hcl := c.toNat_lt
  unfold nameB moreB
  simp only [decide_eq_true_eq]
  generalize topiaryref11_NameEnd.l0 k s a ((n + 1 : Nat) : Int) = A
  generalize c.toNat = v at *
  clear hw hc hs hlt
  repeat' (first | (exfalso; omega) | split)
  all_goals rfl
theorem ref_name_l0 (s : ByteArray) (a : Int) (hs : s.size ≤ 4294967296) (d : Nat) : ∀ (n k : Nat), s.size - n = d → n ≤ s.size → a < n → 2 * d + 2 ≤ k → topiaryref11_NameEnd.l0 k s a n = some ((n : Int) + ((s.data.toList.drop n).takeWhile fun c => nameB c || moreB c).length) := by
  induction d with
  | zero =>
    intro n k hd hn ha hk
    obtain ⟨k, rfl⟩ : ∃ m, k = m + 2 := ⟨k - 2, by omega⟩
    rw [topiaryref11_NameEnd.l0, if_pos (by omega), show decide ((n : Int) < (s.size : Int)) = false from by simp; omega, topiaryref11_NameEnd.j1, if_neg (by decide), List.drop_of_length_le (by rw [len_data]; omega)]
    simp
  | succ d ih =>
    intro n k hd hn ha hk
    obtain ⟨k, rfl⟩ : ∃ m, k = m + 2 := ⟨k - 2, by omega⟩
    have hlt : n < s.size := by omega
    obtain ⟨c, hc⟩ : ∃ c, s[n] = c := ⟨_, rfl⟩
    rw [ref_name_step s a n hs hlt c hc, drop_cons s n hlt, hc]
    by_cases h : (nameB c || moreB c) = true
    · rw [List.takeWhile_cons_of_pos (p := fun c => nameB c || moreB c) h, if_pos (by
        simp only [Bool.or_eq_true] at h
        exact h.imp_right fun h => ⟨h, by omega⟩), ih (n + 1) k (by omega) (by omega) (by omega) (by omega), List.length_cons]
      congr 1
      omega
    · rw [List.takeWhile_cons_of_neg (p := fun c => nameB c || moreB c) h, if_neg (fun h' => h (by
        simp only [Bool.or_eq_true]
        exact h'.imp_right fun h => h.1))]
      simp
theorem ref_name_f (s : ByteArray) (a : Int) (hs : s.size ≤ 4294967296) (k : Nat) : topiaryref11_NameEnd.f (2 * s.size + 2 + k) s a = some (nameEndP s.data.toList a) := by
  unfold topiaryref11_NameEnd.f nameEndP
  have hl := len_data s
  by_cases h0 : 0 ≤ a ∧ a < s.size
  · obtain ⟨n, rfl⟩ := Int.eq_ofNat_of_zero_le h0.1
    have hlt : n < s.size := by omega
    obtain ⟨c, hc⟩ : ∃ c, s[n] = c := ⟨_, rfl⟩
    rw [if_pos ⟨h0.1, by omega⟩, Int.toNat_natCast, show 2 * s.size + 2 + k = (2 * s.size + k) + 2 from by omega, ref_name_step s n n hs hlt c hc, drop_cons s n hlt, hc]
    simp only [nameLen]
    by_cases hn : nameB c = true
    · rw [if_pos (.inl hn), if_pos hn, ref_name_l0 s n hs (s.size - (n + 1)) (n + 1) _ rfl (by omega) (by omega) (by omega)]
      congr 1
      omega
    · rw [if_neg (by simp [hn]), if_neg hn]
      simp
  · rw [if_neg (by omega), show 2 * s.size + 2 + k = (2 * s.size + k) + 2 from by omega, topiaryref11_NameEnd.l0]
    by_cases h2 : a ≥ 0
    · rw [if_pos h2, show decide (a < (s.size : Int)) = false from by simp; omega, topiaryref11_NameEnd.j1, if_neg (by decide)]
    · rw [if_neg h2, topiaryref11_NameEnd.j1, if_neg (by decide)]
end Go.Proofs.Ytlhhhlimjajnlaa.P11n
end
