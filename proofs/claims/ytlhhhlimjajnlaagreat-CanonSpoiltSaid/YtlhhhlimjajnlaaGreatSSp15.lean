/- Parts of the proof of canonSpoilt_holds, kept and merged by a program of mine (wip/tools/slim.py) out of my texts: P11b -/
import Derived.Test.YtlhhhlimjajnlaaGreatSSp8
import Derived.Test.YtlhhhlimjajnlaaGreatSSp4
import Derived.Test.YtlhhhlimjajnlaaGreatSSp5
import Derived.Test.YtlhhhlimjajnlaaGreatSSp13
section
set_option linter.unusedVariables false
set_option linter.unusedSimpArgs false
namespace Go.Proofs.YtlhhhlimjajnlaaGreat.P11
open Go Go.RowKit Go.Proofs.YtlhhhlimjajnlaaGreat Go.Proofs.YtlhhhlimjajnlaaGreat.Q Go.Proofs.YtlhhhlimjajnlaaGreatW.PrintWords Go.Proofs.YtlhhhlimjajnlaaGreat.X
theorem cwr (n : Int) (h0 : -9223372036854775808 ≤ n) (h1 : n ≤ 9223372036854775807) : wrap64 n = n := by unfold wrap64; omega
theorem clen (s : ByteArray) : s.data.toList.length = s.size := (Lib.size_eq s).symm
theorem cpoint_f (c : Int) : chars_point.f c = some (pointB c) := by
 unfold chars_point.f pointB
 repeat' split
 all_goals
  congr 1
  first | rfl | (rw [Bool.eq_iff_iff]; simp; omega) | (symm; simp; omega)
theorem csize_f (c : Int) : chars_size.f c = some (sizeN c) := by
 unfold chars_size.f sizeN
 repeat' split
 all_goals rfl
theorem callowed_f (c : Int) (k : Nat) : chars_Allowed.f (k + 1) c = some (allowedB c) := by
 unfold chars_Allowed.f
 have hj : ∀ b, chars_Allowed.j0 (k + 1) c b = if b = true then some true else if c < 32 then some false else if c = 65534 then some false else if c = 65535 then some false else some (pointB c) := by
  intro b
  rw [chars_Allowed.j0, cpoint_f]
  rfl
 rw [hj, hj]
 unfold allowedB pointB
 by_cases h9 : c = 9
 ·subst h9; rfl
 by_cases h10 : c = 10
 ·subst h10; rfl
 by_cases h13 : c = 13
 ·subst h13; rfl
 rw [if_neg h9, if_neg h10, show (c == 13) = false from by simpa using h13, show (c == 9) = false from by simpa using h9, show (c == 10) = false from by simpa using h10]
 simp only [Bool.false_or]
 rw [if_neg (by decide)]
 by_cases h32 : c < 32
 ·rw [if_pos h32, show decide (32 ≤ c) = false from by simp; omega]; rfl
 rw [if_neg h32, show decide (32 ≤ c) = true from by simp; omega]
 by_cases hfe : c = 65534
 ·subst hfe; rfl
 rw [if_neg hfe, show (c == 65534) = false from by simpa using hfe]
 by_cases hff : c = 65535
 ·subst hff; rfl
 rw [if_neg hff, show (c == 65535) = false from by simpa using hff]
 rfl
theorem or192 (x : Int) (h0 : 0 ≤ x) (h1 : x < 32) : Go.bits .or .i64 192 x % 256 = 192 + x := by rw [i64_or5 192 x (by decide) (by decide) (by decide) h0 h1]; omega
theorem or224 (x : Int) (h0 : 0 ≤ x) (h1 : x < 16) : Go.bits .or .i64 224 x % 256 = 224 + x := by rw [i64_or4 224 x (by decide) (by decide) (by decide) h0 h1]; omega
theorem or240 (x : Int) (h0 : 0 ≤ x) (h1 : x < 16) : Go.bits .or .i64 240 x % 256 = 240 + x := by rw [i64_or4 240 x (by decide) (by decide) (by decide) h0 h1]; omega
theorem lead1 : chars_lead.f 1 = some 0 := by kernel_rfl
theorem lead2 : chars_lead.f 2 = some 192 := by kernel_rfl
theorem lead3 : chars_lead.f 3 = some 224 := by kernel_rfl
theorem lead4 : chars_lead.f 4 = some 240 := by kernel_rfl
theorem cencode_f (c : Int) (k : Nat) : chars_Encode.f (k + 5) c = some ⟨(encL c).toArray⟩ := by
 unfold chars_Encode.f
 rw [cpoint_f, Option.bind_some]
 unfold encL
 by_cases hp : pointB c = true
 ·have hb : 0 ≤ c ∧ c ≤ 1114111 := by unfold pointB at hp; simp at hp; omega
  rw [if_pos hp, if_pos hp, csize_f, Option.bind_some]
  unfold sizeN
  by_cases h1 : c < 128
  ·simp only [if_pos h1]
   rw [if_pos (by simp), if_pos (by simp), cwr _ (by decide) (by decide), chars_Encode.l0, if_neg (by simp), lead1, Option.bind_some, if_pos (by simp)]
   simp only [show ((1 : Int)).toNat = 1 from rfl, show ((0 : Int)).toNat = 0 from rfl, List.replicate, List.set, or0 c hb.1 h1]
   rfl
  rw [if_neg h1, if_neg h1]
  by_cases h2 : c < 2048
  ·simp only [if_pos h2]
   rw [if_pos (by simp), if_pos (by simp), cwr _ (by decide) (by decide), chars_Encode.l0, if_pos (by simp), if_pos (by simp), if_pos (by simp), cwr _ (by decide) (by decide), chars_Encode.l0, if_neg (by simp), lead2, Option.bind_some, if_pos (by simp)]
   simp only [show ((2 : Int)).toNat = 2 from rfl, show ((2 : Int) - 1).toNat = 1 from rfl, show ((0 : Int)).toNat = 0 from rfl, List.replicate, List.set, or128_and63 c hb.1 (by omega), or192 (c / 64) (by omega) (by omega)]
   rfl
  rw [if_neg h2, if_neg h2]
  by_cases h3 : c < 65536
  ·simp only [if_pos h3]
   rw [if_pos (by simp), if_pos (by simp), cwr _ (by decide) (by decide), chars_Encode.l0, if_pos (by simp), if_pos (by simp), if_pos (by simp), cwr _ (by decide) (by decide), chars_Encode.l0, if_pos (by simp), if_pos (by simp), if_pos (by simp), cwr _ (by decide) (by decide), chars_Encode.l0, if_neg (by simp), lead3, Option.bind_some, if_pos (by simp)]
   simp only [show ((3 : Int)).toNat = 3 from rfl, show ((3 : Int) - 1).toNat = 2 from rfl, show ((3 : Int) - 1 - 1).toNat = 1 from rfl, show ((0 : Int)).toNat = 0 from rfl, List.replicate, List.set, or128_and63 c hb.1 (by omega), or128_and63 (c / 64) (by omega) (by omega), or224 (c / 64 / 64) (by omega) (by omega)]
   simp only [show c / 64 / 64 = c / 4096 from by omega]
   rfl
  rw [if_neg h3, if_neg h3]
  rw [if_pos (by simp), if_pos (by simp), cwr _ (by decide) (by decide), chars_Encode.l0, if_pos (by simp), if_pos (by simp), if_pos (by simp), cwr _ (by decide) (by decide), chars_Encode.l0, if_pos (by simp), if_pos (by simp), if_pos (by simp), cwr _ (by decide) (by decide), chars_Encode.l0, if_pos (by simp), if_pos (by simp), if_pos (by simp), cwr _ (by decide) (by decide), chars_Encode.l0, if_neg (by simp), lead4, Option.bind_some, if_pos (by simp)]
  simp only [show ((4 : Int)).toNat = 4 from rfl, show ((4 : Int) - 1).toNat = 3 from rfl, show ((4 : Int) - 1 - 1).toNat = 2 from rfl, show ((4 : Int) - 1 - 1 - 1).toNat = 1 from rfl, show ((0 : Int)).toNat = 0 from rfl, List.replicate, List.set, or128_and63 c hb.1 (by omega), or128_and63 (c / 64) (by omega) (by omega), or128_and63 (c / 64 / 64) (by omega) (by omega), or240 (c / 64 / 64 / 64) (by omega) (by omega)]
  rw [show c / 64 / 64 / 64 = c / 262144 from by omega, show c / 64 / 64 = c / 4096 from by omega]
  rfl
 ·rw [if_neg hp, if_neg hp]
theorem digit_f (c : UInt8) : chars_digit.f (c.toNat : Int) = some (digitV c) := by
 have h : ∀ y : Fin 256, chars_digit.f (y.val : Int) = some (digitV (UInt8.ofNat y.val)) := by decide +kernel
 have := h ⟨c.toNat, c.toNat_lt⟩
 simpa using this
theorem digitV_le (c : UInt8) : digitV c ≤ 15 := by
 unfold digitV
 repeat' split
 all_goals omega
theorem bt_get' (s : ByteArray) (n : Nat) (h : n < s.size) : bt s (n : Int) = (s[n].toNat : Int) := by
 have := bt_at s (n : Int) (by rw [Int.toNat_natCast]; exact h)
 rw [← this]; rfl
theorem cdrop_cons (s : ByteArray) (n : Nat) (hn : n < s.size) : s.data.toList.drop n = s[n] :: s.data.toList.drop (n + 1) := by
 have h : n < s.data.toList.length := by rw [← Lib.size_eq]; exact hn
 rw [List.drop_eq_getElem_cons h]; rfl
def numdR (base code : Int) (l : List UInt8) : List UInt8 := match digitsV base code l with
 | some n => if allowedB n then encL n else []
 | none => []
theorem numd_l0 (s : ByteArray) (base : Int) (hb : 0 < base ∧ base ≤ 16) (hs : s.size ≤ 8) (d : Nat) : ∀ (i k : Nat) (code : Int), i + d = s.size → d + 6 ≤ k → 0 ≤ code → code < 16 ^ i →
 chars_numbered.l0 k s base code s.size i = some ⟨(numdR base code (s.data.toList.drop i)).toArray⟩ := by
 induction d with
 | zero =>
  intro i k code hi hk h0 h1
  obtain ⟨k, rfl⟩ : ∃ m, k = m + 6 := ⟨k - 6, by omega⟩
  rw [chars_numbered.l0, if_neg (by omega), callowed_f, Option.bind_some, List.drop_of_length_le (by rw [clen]; omega), numdR]
  simp only [digitsV]
  by_cases ha : allowedB code = true
  ·rw [if_pos ha, if_pos ha, cencode_f]; rfl
  ·rw [if_neg ha, if_neg ha]
 | succ d ih =>
  intro i k code hi hk h0 h1
  obtain ⟨k, rfl⟩ : ∃ m, k = m + 1 := ⟨k - 1, by omega⟩
  have hlt : i < s.size := by omega
  rw [chars_numbered.l0, if_pos (by omega), if_pos (by omega), if_pos (by omega), bt_get' s i hlt, digit_f, Option.bind_some, cdrop_cons s i hlt]
  obtain ⟨c, hc⟩ : ∃ c, s[i] = c := ⟨_, rfl⟩
  rw [hc]
  have hd := digitV_le c
  have hpow : (16 : Int) ^ i ≤ 268435456 := by
   have : 16 ^ i ≤ 16 ^ 7 := Nat.pow_le_pow_right (by decide) (by omega)
   have h2 : ((16 ^ i : Nat) : Int) ≤ ((16 ^ 7 : Nat) : Int) := by omega
   simpa using h2
  have hmul : 0 ≤ code * base ∧ code * base ≤ code * 16 := ⟨Int.mul_nonneg h0 (by omega), Int.mul_le_mul_of_nonneg_left hb.2 h0⟩
  by_cases hg : digitV c < 0
  ·rw [if_pos hg, numdR]
   simp only [digitsV]
   rw [if_neg (by omega)]
  rw [if_neg hg]
  by_cases hg2 : digitV c ≥ base
  ·rw [if_pos hg2, numdR]
   simp only [digitsV]
   rw [if_neg (by omega)]
  rw [if_neg hg2, cwr (code * base) (by omega) (by omega), cwr _ (by omega) (by omega), cwr ((i : Int) + 1) (by omega) (by omega)]
  have := ih (i + 1) k (code * base + digitV c) (by omega) (by omega) (by omega) (by rw [Int.pow_succ]; omega)
  rw [show ((i + 1 : Nat) : Int) = (i : Int) + 1 from by omega] at this
  rw [this]
  congr 3
  unfold numdR
  simp only [digitsV]
  rw [if_pos (by omega)]
theorem numbered_f (s : ByteArray) (base : Int) (hb : 0 < base ∧ base ≤ 16) (k : Nat) : chars_numbered.f (k + 16) s base = some ⟨(numdL base s.data.toList).toArray⟩ := by
 unfold chars_numbered.f numdL
 rw [Lib.toList_data]
 have hl := clen s
 by_cases he : s.data.toList = []
 ·rw [if_pos he, if_pos (.inl he), chars_numbered.j0, if_pos rfl]
 rw [if_neg he]
 by_cases h8 : (s.size : Int) > 8
 ·rw [if_pos (.inr (by omega)), show decide ((s.size : Int) > 8) = true from by simpa using h8, chars_numbered.j0, if_pos rfl]
 ·rw [if_neg (fun h => h.elim he (fun h => by omega)), show decide ((s.size : Int) > 8) = false from by simpa using h8, chars_numbered.j0, if_neg (by decide)]
  have := numd_l0 s base hb (by omega) s.size 0 (k + 15) 0 (by omega) (by omega) (by omega) (by decide)
  exact this
theorem named_f (s : ByteArray) : chars_named.f s = some ⟨(namedL s.data.toList).toArray⟩ := by
 unfold chars_named.f namedL
 rw [Lib.toList_data]
 repeat' split
 all_goals first | rfl | (exfalso; simp_all; done)
theorem cutPrefix_f (s p : ByteArray) (hs : s.size ≤ 4294967296) : strings_CutPrefix.f s p = some (if p.data.toList.isPrefixOf s.data.toList then (⟨(s.data.toList.drop p.size).toArray⟩, true) else (s, false)) := by
 unfold strings_CutPrefix.f stringslite_CutPrefix.f
 have hh : stringslite_HasPrefix.f s p = some (p.data.toList.isPrefixOf s.data.toList) := by
  unfold stringslite_HasPrefix.f
  have hp := (Lib.hasPrefix_of_take s.data.toList p.data.toList).symm
  unfold Lib.hasPrefix at hp
  rw [hp, clen, clen]
  by_cases h : (s.size : Int) ≥ (p.size : Int)
  ·rw [if_pos h, if_pos (by omega), if_pos (by omega), show decide (p.size ≤ s.size) = true from by simp; omega, Bool.true_and, Lib.extract_toList, Lib.toList_data, Int.toNat_natCast]
   rfl
  ·rw [if_neg h, show decide (p.size ≤ s.size) = false from by simp; omega, Bool.false_and]
 rw [hh, Option.bind_some]
 by_cases hb : p.data.toList.isPrefixOf s.data.toList = true
 ·have hle : p.size ≤ s.size := by
   have := (List.isPrefixOf_iff_prefix.1 hb).length_le
   rw [clen, clen] at this; exact this
  rw [if_pos hb, if_pos hb, if_pos (by omega), if_pos (by omega), Option.bind_some, Int.toNat_natCast, Lib.extract_eq]
  rw [List.take_of_length_le (by rw [List.length_drop, clen]; exact Nat.le_refl _)]
 ·rw [if_neg hb, if_neg hb]; rfl
theorem indexByte_upTo (l : List UInt8) (c : UInt8) : (upTo c l = none → Lib.indexByte l c = -1) ∧ (∀ b, upTo c l = some b → Lib.indexByte l c = b.length ∧ l.take b.length = b) := by
 induction l with
 | nil => exact ⟨fun _ => rfl, fun b h => by simp [upTo] at h⟩
 | cons a t ih =>
  unfold upTo Lib.indexByte
  by_cases h : a = c
  ·subst h
   rw [if_pos rfl]
   refine ⟨fun h => by simp at h, fun b hb => ?_⟩
   obtain rfl := Option.some.inj hb
   simp
  ·rw [if_neg h]
   have hb : (a == c) = false := by simpa using h
   simp only [hb]
   cases hu : upTo c t with
   | none =>
    refine ⟨fun _ => ?_, fun b h => by simp at h⟩
    rw [ih.1 hu]; rfl
   | some x =>
    refine ⟨fun h => by simp at h, fun b hb => ?_⟩
    obtain ⟨h1, h2⟩ := ih.2 x hu
    simp at hb
    subst hb
    rw [h1]
    have : ((x.length : Int) == -1) = false := by simp
    rw [this]
    exact ⟨by simp, by simp [h2]⟩
theorem index_one' (l : List UInt8) (c : UInt8) : Lib.index l [c] = Lib.indexByte l c := by
 induction l with
 | nil => rfl
 | cons b l ih =>
  unfold Lib.index Lib.indexByte
  rw [ih]
  by_cases h : b = c
  ·subst h; simp [List.isPrefixOf]
  ·have h' : ¬ c = b := fun e => h e.symm
   simp [List.isPrefixOf, h, h']
theorem cut_upTo (l : List UInt8) (c : UInt8) : ((Lib.cut l [c]).2.2 = (upTo c l).isSome) ∧ ∀ b, upTo c l = some b → (Lib.cut l [c]).1 = b := by
 unfold Lib.cut
 rw [index_one']
 cases hu : upTo c l with
 | none => rw [(indexByte_upTo l c).1 hu]; exact ⟨rfl, fun b h => by cases h⟩
 | some x =>
  obtain ⟨h1, h2⟩ := (indexByte_upTo l c).2 x hu
  rw [h1, if_pos (by omega)]
  exact ⟨rfl, fun b h => by obtain rfl := Option.some.inj h; simpa using h2⟩
theorem upTo_len (l : List UInt8) (c : UInt8) (b : List UInt8) (h : upTo c l = some b) : b.length < l.length := by
 induction l generalizing b with
 | nil => simp [upTo] at h
 | cons a t ih =>
  unfold upTo at h
  by_cases e : a = c
  ·rw [if_pos e] at h; obtain rfl := Option.some.inj h; simp
  ·rw [if_neg e] at h
   cases hu : upTo c t with
   | none => rw [hu] at h; simp at h
   | some x => rw [hu] at h; simp at h; subst h; have := ih x hu; simp; omega
theorem entL_cons (a : UInt8) (t : List UInt8) : entL (a :: t) = if a = 38 then (match upTo 59 t with | some b => if bodyL b = [] then ([], 0) else (bodyL b, (b.length : Int) + 2) | none => ([], 0)) else ([], 0) := rfl
theorem centity_f (s : ByteArray) (a : Int) (hs : s.size ≤ 4294967280) (k : Nat) : chars_Entity.f (k + 20) s a = some (⟨(entP s.data.toList a).1.toArray⟩, (entP s.data.toList a).2) := by
 have hl := clen s
 unfold chars_Entity.f entP
 by_cases h0 : a < 0
 ·rw [if_pos h0, chars_Entity.j0, if_pos rfl, if_neg (by omega)]
 rw [if_neg h0]
 by_cases h1 : a ≥ (s.size : Int)
 ·rw [if_pos h1, chars_Entity.j0, if_pos rfl, if_neg (by omega)]
 rw [if_neg h1, if_pos (by omega), if_pos (by omega), if_pos (by omega)]
 obtain ⟨n, rfl⟩ := Int.eq_ofNat_of_zero_le (by omega : 0 ≤ a)
 have hn : n < s.size := by omega
 rw [Int.toNat_natCast, cdrop_cons s n hn, bt_get' s n hn]
 obtain ⟨c, hc⟩ : ∃ c, s[n] = c := ⟨_, rfl⟩
 rw [hc, entL_cons]
 by_cases h38 : c = 38
 ·subst h38
  rw [if_pos rfl, show ((((38 : UInt8).toNat : Int)) != 38) = false from rfl, chars_Entity.j0, if_neg (by decide), cwr ((n : Int) + 1) (by omega) (by omega), if_pos (by omega), if_pos (by omega), show ((n : Int) + 1).toNat = n + 1 from by omega]
  have hex : (s.extract (n + 1) s.size).data.toList = s.data.toList.drop (n + 1) := by rw [Lib.extract_data, List.take_of_length_le (by rw [List.length_drop, hl]; exact Nat.le_refl _)]
  have hes : (s.extract (n + 1) s.size).size < 4294967281 := by rw [Lib.size_eq, hex, List.length_drop, hl]; omega
  rw [strings_Cut.f, if_pos ⟨hes, rfl⟩, Option.bind_some, hex]
  obtain ⟨hc1, hc2⟩ := cut_upTo (s.data.toList.drop (n + 1)) 59
  simp only [show (⟨#[59]⟩ : ByteArray).data.toList = [59] from rfl]
  rw [hc1]
  cases hu : upTo 59 (s.data.toList.drop (n + 1)) with
  | none => rfl
  | some b =>
   have hbl := upTo_len _ _ _ hu
   rw [List.length_drop, hl] at hbl
   rw [hc2 b hu]
   simp only [Option.isSome, if_true]
   rw [named_f, Option.bind_some]
   have hbs : (⟨b.toArray⟩ : ByteArray).size = b.length := by simp [ByteArray.size]
   rw [cutPrefix_f _ _ (by rw [hbs]; omega), Option.bind_some, cutPrefix_f _ _ (by rw [hbs]; omega), Option.bind_some]
   simp only [show (⟨#[35, 120]⟩ : ByteArray).data.toList = [35, 120] from rfl, show (⟨#[35]⟩ : ByteArray).data.toList = [35] from rfl, show (⟨#[35, 120]⟩ : ByteArray).size = 2 from rfl, show (⟨#[35]⟩ : ByteArray).size = 1 from rfl, show (⟨b.toArray⟩ : ByteArray).data.toList = b from rfl]
   have hw : wrap64 (((⟨b.toArray⟩ : ByteArray).size : Int) + 2) = (b.length : Int) + 2 := by rw [hbs, cwr _ (by omega) (by omega)]
   have hend : ∀ x : List UInt8, (if (⟨x.toArray⟩ : ByteArray).toList = ([] : List UInt8) then some ((⟨#[]⟩ : ByteArray), (0 : Int)) else some (⟨x.toArray⟩, wrap64 (((⟨b.toArray⟩ : ByteArray).size : Int) + 2))) = some (⟨(if x = [] then (([] : List UInt8), (0 : Int)) else (x, (b.length : Int) + 2)).1.toArray⟩, (if x = [] then (([] : List UInt8), (0 : Int)) else (x, (b.length : Int) + 2)).2) := by
    intro x
    rw [Lib.toList_data, hw]
    by_cases hx : x = []
    ·rw [if_pos hx, if_pos hx]
    ·rw [if_neg hx, if_neg hx]
   unfold bodyL
   by_cases p1 : [35, 120].isPrefixOf b = true
   ·rw [if_pos p1, if_pos p1]
    simp only [if_true]
    rw [show k + 19 = (k + 3) + 16 from rfl, numbered_f _ 16 (by decide), Option.bind_some, hend]
   ·rw [if_neg p1, if_neg p1]
    simp only [if_neg (show ¬ (false = true) by decide)]
    by_cases p2 : [35].isPrefixOf b = true
    ·rw [if_pos p2, if_pos p2]
     simp only [if_true]
     rw [show k + 19 = (k + 3) + 16 from rfl, numbered_f _ 10 (by decide), Option.bind_some, hend]
    ·rw [if_neg p2, if_neg p2]
     simp only [if_neg (show ¬ (false = true) by decide)]
     rw [hend]
 ·rw [if_neg h38]
  have : ((c.toNat : Int) != 38) = true := by
   rw [bne_iff_ne]
   exact fun e => h38 (UInt8.toNat_inj.1 (by simpa using (by omega : c.toNat = 38)))
  rw [this, chars_Entity.j0, if_pos rfl]
end Go.Proofs.YtlhhhlimjajnlaaGreat.P11
end
