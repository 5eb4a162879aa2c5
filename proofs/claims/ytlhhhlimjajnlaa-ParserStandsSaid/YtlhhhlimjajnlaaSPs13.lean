/- Parts of the proof of parserStands_holds, kept and merged by a program of mine (wip/tools/slim.py) out of my texts: P11b LexB LexC LexD P11v -/
import Derived.Deep.RegionWith
import Derived.Lib.IndexBytes
import Derived.Test.YtlhhhlimjajnlaaSPs12
import Derived.Test.YtlhhhlimjajnlaaSPs9
import Derived.Test.YtlhhhlimjajnlaaSPs4
import Derived.Test.YtlhhhlimjajnlaaSPs6
import Derived.Test.YtlhhhlimjajnlaaSPs11
import Derived.Test.YtlhhhlimjajnlaaSPs10
section
set_option linter.unusedVariables false
set_option linter.unusedSimpArgs false
namespace Go.Proofs.Ytlhhhlimjajnlaa.P11
open Go Go.RowKit Go.Proofs.Ytlhhhlimjajnlaa Go.Proofs.Ytlhhhlimjajnlaa.Q Go.Proofs.YtlhhhlimjajnlaaW.PrintWords Go.Proofs.Ytlhhhlimjajnlaa.X
theorem cwr (n : Int) (h0 : -9223372036854775808 ≤ n) (h1 : n ≤ 9223372036854775807) : wrap64 n = n := by unfold wrap64; omega
theorem clen (s : ByteArray) : s.data.toList.length = s.size := (Lib.size_eq s).symm
theorem cpoint_f (c : Int) : chars_point.f c = some (pointB c) := by
  unfold chars_point.f pointB
  repeat' split
  all_goals
    congr 1
    first | rfl | (rw [Bool.eq_iff_iff]; simp; omega) | (symm; simp; omega)
theorem csize_f (c : Int) : chars_size.f c = some (sizeN c) := by
  unfold chars_size.f sizeN
  repeat' split
  all_goals rfl
theorem callowed_f (c : Int) (k : Nat) : chars_Allowed.f (k + 1) c = some (allowedB c) := by
  unfold chars_Allowed.f
  have hj : ∀ b, chars_Allowed.j0 (k + 1) c b = if b = true then some true else if c < 32 then some false else if c = 65534 then some false else if c = 65535 then some false else some (pointB c) := by
    intro b
    rw [chars_Allowed.j0, cpoint_f]
    rfl
  rw [hj, hj]
  unfold allowedB pointB
  by_cases h9 : c = 9
  · subst h9; rfl
  by_cases h10 : c = 10
  · subst h10; rfl
  by_cases h13 : c = 13
  · subst h13; rfl
  rw [if_neg h9, if_neg h10, show (c == 13) = false from by simpa using h13, show (c == 9) = false from by simpa using h9, show (c == 10) = false from by simpa using h10]
  simp only [Bool.false_or]
  rw [if_neg (by decide)]
  by_cases h32 : c < 32
  · rw [if_pos h32, show decide (32 ≤ c) = false from by simp; omega]; rfl
  rw [if_neg h32, show decide (32 ≤ c) = true from by simp; omega]
  by_cases hfe : c = 65534
  · subst hfe; rfl
  rw [if_neg hfe, show (c == 65534) = false from by simpa using hfe]
  by_cases hff : c = 65535
  · subst hff; rfl
  rw [if_neg hff, show (c == 65535) = false from by simpa using hff]
  rfl
theorem or192 (x : Int) (h0 : 0 ≤ x) (h1 : x < 32) : Go.bits .or .i64 192 x % 256 = 192 + x := by rw [i64_or5 192 x (by decide) (by decide) (by decide) h0 h1]; omega
theorem or224 (x : Int) (h0 : 0 ≤ x) (h1 : x < 16) : Go.bits .or .i64 224 x % 256 = 224 + x := by rw [i64_or4 224 x (by decide) (by decide) (by decide) h0 h1]; omega
theorem or240 (x : Int) (h0 : 0 ≤ x) (h1 : x < 16) : Go.bits .or .i64 240 x % 256 = 240 + x := by rw [i64_or4 240 x (by decide) (by decide) (by decide) h0 h1]; omega
theorem lead1 : chars_lead.f 1 = some 0 := by kernel_rfl
theorem lead2 : chars_lead.f 2 = some 192 := by kernel_rfl
theorem lead3 : chars_lead.f 3 = some 224 := by kernel_rfl
theorem lead4 : chars_lead.f 4 = some 240 := by kernel_rfl
theorem cencode_f (c : Int) (k : Nat) : chars_Encode.f (k + 5) c = some ⟨(encL c).toArray⟩ := by
  unfold chars_Encode.f
  rw [cpoint_f, Option.bind_some]
  unfold encL
  by_cases hp : pointB c = true
  · have hb : 0 ≤ c ∧ c ≤ 1114111 := by unfold pointB at hp; simp at hp; omega
    rw [if_pos hp, if_pos hp, csize_f, Option.bind_some]
    unfold sizeN
    by_cases h1 : c < 128
    · simp only [if_pos h1]
      rw [if_pos (by simp), if_pos (by simp), cwr _ (by decide) (by decide), chars_Encode.l0, if_neg (by simp), lead1, Option.bind_some, if_pos (by simp)]
      simp only [show ((1 : Int)).toNat = 1 from rfl, show ((0 : Int)).toNat = 0 from rfl, List.replicate, List.set, or0 c hb.1 h1]
      rfl
    rw [if_neg h1, if_neg h1]
    by_cases h2 : c < 2048
    · simp only [if_pos h2]
      rw [if_pos (by simp), if_pos (by simp), cwr _ (by decide) (by decide), chars_Encode.l0, if_pos (by simp), if_pos (by simp), if_pos (by simp), cwr _ (by decide) (by decide), chars_Encode.l0, if_neg (by simp), lead2, Option.bind_some, if_pos (by simp)]
      simp only [show ((2 : Int)).toNat = 2 from rfl, show ((2 : Int) - 1).toNat = 1 from rfl, show ((0 : Int)).toNat = 0 from rfl, List.replicate, List.set, or128_and63 c hb.1 (by omega), or192 (c / 64) (by omega) (by omega)]
      rfl
    rw [if_neg h2, if_neg h2]
    by_cases h3 : c < 65536
    · simp only [if_pos h3]
      rw [if_pos (by simp), if_pos (by simp), cwr _ (by decide) (by decide), chars_Encode.l0, if_pos (by simp), if_pos (by simp), if_pos (by simp), cwr _ (by decide) (by decide), chars_Encode.l0, if_pos (by simp), if_pos (by simp), if_pos (by simp), cwr _ (by decide) (by decide), chars_Encode.l0, if_neg (by simp), lead3, Option.bind_some, if_pos (by simp)]
      simp only [show ((3 : Int)).toNat = 3 from rfl, show ((3 : Int) - 1).toNat = 2 from rfl, show ((3 : Int) - 1 - 1).toNat = 1 from rfl, show ((0 : Int)).toNat = 0 from rfl, List.replicate, List.set, or128_and63 c hb.1 (by omega), or128_and63 (c / 64) (by omega) (by omega), or224 (c / 64 / 64) (by omega) (by omega)]
      simp only [show c / 64 / 64 = c / 4096 from by omega]
      rfl
    rw [if_neg h3, if_neg h3]
    rw [if_pos (by simp), if_pos (by simp), cwr _ (by decide) (by decide), chars_Encode.l0, if_pos (by simp), if_pos (by simp), if_pos (by simp), cwr _ (by decide) (by decide), chars_Encode.l0, if_pos (by simp), if_pos (by simp), if_pos (by simp), cwr _ (by decide) (by decide), chars_Encode.l0, if_pos (by simp), if_pos (by simp), if_pos (by simp), cwr _ (by decide) (by decide), chars_Encode.l0, if_neg (by simp), lead4, Option.bind_some, if_pos (by simp)]
    simp only [show ((4 : Int)).toNat = 4 from rfl, show ((4 : Int) - 1).toNat = 3 from rfl, show ((4 : Int) - 1 - 1).toNat = 2 from rfl, show ((4 : Int) - 1 - 1 - 1).toNat = 1 from rfl, show ((0 : Int)).toNat = 0 from rfl, List.replicate, List.set, or128_and63 c hb.1 (by omega), or128_and63 (c / 64) (by omega) (by omega), or128_and63 (c / 64 / 64) (by omega) (by omega), or240 (c / 64 / 64 / 64) (by omega) (by omega)]
    rw [show c / 64 / 64 / 64 = c / 262144 from by omega, show c / 64 / 64 = c / 4096 from by omega]
    rfl
  · rw [if_neg hp, if_neg hp]
theorem digit_f (c : UInt8) : chars_digit.f (c.toNat : Int) = some (digitV c) := by
  have h : ∀ y : Fin 256, chars_digit.f (y.val : Int) = some (digitV (UInt8.ofNat y.val)) := by decide +kernel
  have := h ⟨c.toNat, c.toNat_lt⟩
  simpa using this
theorem digitV_le (c : UInt8) : digitV c ≤ 15 := by
  unfold digitV
  repeat' split
  all_goals omega
theorem bt_get' (s : ByteArray) (n : Nat) (h : n < s.size) : bt s (n : Int) = (s[n].toNat : Int) := by
  have := bt_at s (n : Int) (by rw [Int.toNat_natCast]; exact h)
  rw [← this]; rfl
theorem cdrop_cons (s : ByteArray) (n : Nat) (hn : n < s.size) : s.data.toList.drop n = s[n] :: s.data.toList.drop (n + 1) := by
  have h : n < s.data.toList.length := by rw [← Lib.size_eq]; exact hn
  rw [List.drop_eq_getElem_cons h]; rfl
def numdR (base code : Int) (l : List UInt8) : List UInt8 := match digitsV base code l with
  | some n => if allowedB n then encL n else []
  | none => []
theorem numd_l0 (s : ByteArray) (base : Int) (hb : 0 < base ∧ base ≤ 16) (hs : s.size ≤ 8) (d : Nat) : ∀ (i k : Nat) (code : Int), i + d = s.size → d + 6 ≤ k → 0 ≤ code → code < 16 ^ i →
    chars_numbered.l0 k s base code s.size i = some ⟨(numdR base code (s.data.toList.drop i)).toArray⟩ := by
  induction d with
  | zero =>
    intro i k code hi hk h0 h1
    obtain ⟨k, rfl⟩ : ∃ m, k = m + 6 := ⟨k - 6, by omega⟩
    rw [chars_numbered.l0, if_neg (by omega), callowed_f, Option.bind_some, List.drop_of_length_le (by rw [clen]; omega), numdR]
    simp only [digitsV]
    by_cases ha : allowedB code = true
    · rw [if_pos ha, if_pos ha, cencode_f]; rfl
    · rw [if_neg ha, if_neg ha]
  | succ d ih =>
    intro i k code hi hk h0 h1
    obtain ⟨k, rfl⟩ : ∃ m, k = m + 1 := ⟨k - 1, by omega⟩
    have hlt : i < s.size := by omega
    rw [chars_numbered.l0, if_pos (by omega), if_pos (by omega), if_pos (by omega), bt_get' s i hlt, digit_f, Option.bind_some, cdrop_cons s i hlt]
    obtain ⟨c, hc⟩ : ∃ c, s[i] = c := ⟨_, rfl⟩
    rw [hc]
    have hd := digitV_le c
    have hpow : (16 : Int) ^ i ≤ 268435456 := by
      have : 16 ^ i ≤ 16 ^ 7 := Nat.pow_le_pow_right (by decide) (by omega)
      have h2 : ((16 ^ i : Nat) : Int) ≤ ((16 ^ 7 : Nat) : Int) := by omega
      simpa using h2
    have hmul : 0 ≤ code * base ∧ code * base ≤ code * 16 := ⟨Int.mul_nonneg h0 (by omega), Int.mul_le_mul_of_nonneg_left hb.2 h0⟩
    by_cases hg : digitV c < 0
    · rw [if_pos hg, numdR]
      simp only [digitsV]
      rw [if_neg (by omega)]
    rw [if_neg hg]
    by_cases hg2 : digitV c ≥ base
    · rw [if_pos hg2, numdR]
      simp only [digitsV]
      rw [if_neg (by omega)]
    rw [if_neg hg2, cwr (code * base) (by omega) (by omega), cwr _ (by omega) (by omega), cwr ((i : Int) + 1) (by omega) (by omega)]
    have := ih (i + 1) k (code * base + digitV c) (by omega) (by omega) (by omega) (by rw [Int.pow_succ]; omega)
    rw [show ((i + 1 : Nat) : Int) = (i : Int) + 1 from by omega] at this
    rw [this]
    congr 3
    unfold numdR
    simp only [digitsV]
    rw [if_pos (by omega)]
theorem numbered_f (s : ByteArray) (base : Int) (hb : 0 < base ∧ base ≤ 16) (k : Nat) : chars_numbered.f (k + 16) s base = some ⟨(numdL base s.data.toList).toArray⟩ := by
  unfold chars_numbered.f numdL
  rw [Lib.toList_data]
  have hl := clen s
  by_cases he : s.data.toList = []
  · rw [if_pos he, if_pos (.inl he), chars_numbered.j0, if_pos rfl]
  rw [if_neg he]
  by_cases h8 : (s.size : Int) > 8
  · rw [if_pos (.inr (by omega)), show decide ((s.size : Int) > 8) = true from by simpa using h8, chars_numbered.j0, if_pos rfl]
  · rw [if_neg (fun h => h.elim he (fun h => by omega)), show decide ((s.size : Int) > 8) = false from by simpa using h8, chars_numbered.j0, if_neg (by decide)]
    have := numd_l0 s base hb (by omega) s.size 0 (k + 15) 0 (by omega) (by omega) (by omega) (by decide)
    exact this
theorem named_f (s : ByteArray) : chars_named.f s = some ⟨(namedL s.data.toList).toArray⟩ := by
  unfold chars_named.f namedL
  rw [Lib.toList_data]
  repeat' split
  all_goals first | rfl | (exfalso; simp_all; done)
theorem cutPrefix_f (s p : ByteArray) (hs : s.size ≤ 4294967296) : strings_CutPrefix.f s p = some (if p.data.toList.isPrefixOf s.data.toList then (⟨(s.data.toList.drop p.size).toArray⟩, true) else (s, false)) := by
  unfold strings_CutPrefix.f stringslite_CutPrefix.f
  have hh : stringslite_HasPrefix.f s p = some (p.data.toList.isPrefixOf s.data.toList) := by
    unfold stringslite_HasPrefix.f
    have hp := (Lib.hasPrefix_of_take s.data.toList p.data.toList).symm
    unfold Lib.hasPrefix at hp
    rw [hp, clen, clen]
    by_cases h : (s.size : Int) ≥ (p.size : Int)
    · rw [if_pos h, if_pos (by omega), if_pos (by omega), show decide (p.size ≤ s.size) = true from by simp; omega, Bool.true_and, Lib.extract_toList, Lib.toList_data, Int.toNat_natCast]
      rfl
    · rw [if_neg h, show decide (p.size ≤ s.size) = false from by simp; omega, Bool.false_and]
  rw [hh, Option.bind_some]
  by_cases hb : p.data.toList.isPrefixOf s.data.toList = true
  · have hle : p.size ≤ s.size := by
      have := (List.isPrefixOf_iff_prefix.1 hb).length_le
      rw [clen, clen] at this; exact this
    rw [if_pos hb, if_pos hb, if_pos (by omega), if_pos (by omega), Option.bind_some, Int.toNat_natCast, Lib.extract_eq]
    rw [List.take_of_length_le (by rw [List.length_drop, clen]; exact Nat.le_refl _)]
  · rw [if_neg hb, if_neg hb]; rfl
theorem indexByte_upTo (l : List UInt8) (c : UInt8) : (upTo c l = none → Lib.indexByte l c = -1) ∧ (∀ b, upTo c l = some b → Lib.indexByte l c = b.length ∧ l.take b.length = b) := by
  induction l with
  | nil => exact ⟨fun _ => rfl, fun b h => by simp [upTo] at h⟩
  | cons a t ih =>
    unfold upTo Lib.indexByte
    by_cases h : a = c
    · subst h
      rw [if_pos rfl]
      refine ⟨fun h => by simp at h, fun b hb => ?_⟩
      obtain rfl := Option.some.inj hb
      simp
    · rw [if_neg h]
      have hb : (a == c) = false := by simpa using h
      simp only [hb]
      cases hu : upTo c t with
      | none =>
        refine ⟨fun _ => ?_, fun b h => by simp at h⟩
        rw [ih.1 hu]; rfl
      | some x =>
        refine ⟨fun h => by simp at h, fun b hb => ?_⟩
        obtain ⟨h1, h2⟩ := ih.2 x hu
        simp at hb
        subst hb
        rw [h1]
        have : ((x.length : Int) == -1) = false := by simp
        rw [this]
        exact ⟨by simp, by simp [h2]⟩
theorem index_one' (l : List UInt8) (c : UInt8) : Lib.index l [c] = Lib.indexByte l c := by
  induction l with
  | nil => rfl
  | cons b l ih =>
    unfold Lib.index Lib.indexByte
    rw [ih]
    by_cases h : b = c
    · subst h; simp [List.isPrefixOf]
    · have h' : ¬ c = b := fun e => h e.symm
      simp [List.isPrefixOf, h, h']
theorem cut_upTo (l : List UInt8) (c : UInt8) : ((Lib.cut l [c]).2.2 = (upTo c l).isSome) ∧ ∀ b, upTo c l = some b → (Lib.cut l [c]).1 = b := by
  unfold Lib.cut
  rw [index_one']
  cases hu : upTo c l with
  | none => rw [(indexByte_upTo l c).1 hu]; exact ⟨rfl, fun b h => by cases h⟩
  | some x =>
    obtain ⟨h1, h2⟩ := (indexByte_upTo l c).2 x hu
    rw [h1, if_pos (by omega)]
    exact ⟨rfl, fun b h => by obtain rfl := Option.some.inj h; simpa using h2⟩
theorem upTo_len (l : List UInt8) (c : UInt8) (b : List UInt8) (h : upTo c l = some b) : b.length < l.length := by
  induction l generalizing b with
  | nil => simp [upTo] at h
  | cons a t ih =>
    unfold upTo at h
    by_cases e : a = c
    · rw [if_pos e] at h; obtain rfl := Option.some.inj h; simp
    · rw [if_neg e] at h
      cases hu : upTo c t with
      | none => rw [hu] at h; simp at h
      | some x => rw [hu] at h; simp at h; subst h; have := ih x hu; simp; omega
theorem entL_cons (a : UInt8) (t : List UInt8) : entL (a :: t) = if a = 38 then (match upTo 59 t with | some b => if bodyL b = [] then ([], 0) else (bodyL b, (b.length : Int) + 2) | none => ([], 0)) else ([], 0) := rfl
theorem centity_f (s : ByteArray) (a : Int) (hs : s.size ≤ 4294967280) (k : Nat) : chars_Entity.f (k + 20) s a = some (⟨(entP s.data.toList a).1.toArray⟩, (entP s.data.toList a).2) := by
  have hl := clen s
  unfold chars_Entity.f entP
  by_cases h0 : a < 0
  · rw [if_pos h0, chars_Entity.j0, if_pos rfl, if_neg (by omega)]
  rw [if_neg h0]
  by_cases h1 : a ≥ (s.size : Int)
  · rw [if_pos h1, chars_Entity.j0, if_pos rfl, if_neg (by omega)]
  rw [if_neg h1, if_pos (by omega), if_pos (by omega), if_pos (by omega)]
  obtain ⟨n, rfl⟩ := Int.eq_ofNat_of_zero_le (by omega : 0 ≤ a)
  have hn : n < s.size := by omega
  rw [Int.toNat_natCast, cdrop_cons s n hn, bt_get' s n hn]
  obtain ⟨c, hc⟩ : ∃ c, s[n] = c := ⟨_, rfl⟩
  rw [hc, entL_cons]
  by_cases h38 : c = 38
  · subst h38
    rw [if_pos rfl, show ((((38 : UInt8).toNat : Int)) != 38) = false from rfl, chars_Entity.j0, if_neg (by decide), cwr ((n : Int) + 1) (by omega) (by omega), if_pos (by omega), if_pos (by omega), show ((n : Int) + 1).toNat = n + 1 from by omega]
    have hex : (s.extract (n + 1) s.size).data.toList = s.data.toList.drop (n + 1) := by rw [Lib.extract_data, List.take_of_length_le (by rw [List.length_drop, hl]; exact Nat.le_refl _)]
    have hes : (s.extract (n + 1) s.size).size < 4294967281 := by rw [Lib.size_eq, hex, List.length_drop, hl]; omega
    rw [strings_Cut.f, if_pos ⟨hes, rfl⟩, Option.bind_some, hex]
    obtain ⟨hc1, hc2⟩ := cut_upTo (s.data.toList.drop (n + 1)) 59
    simp only [show (⟨#[59]⟩ : ByteArray).data.toList = [59] from rfl]
    rw [hc1]
    cases hu : upTo 59 (s.data.toList.drop (n + 1)) with
    | none => rfl
    | some b =>
      have hbl := upTo_len _ _ _ hu
      rw [List.length_drop, hl] at hbl
      rw [hc2 b hu]
      simp only [Option.isSome, if_true]
      rw [named_f, Option.bind_some]
      have hbs : (⟨b.toArray⟩ : ByteArray).size = b.length := by simp [ByteArray.size]
      rw [cutPrefix_f _ _ (by rw [hbs]; omega), Option.bind_some, cutPrefix_f _ _ (by rw [hbs]; omega), Option.bind_some]
      simp only [show (⟨#[35, 120]⟩ : ByteArray).data.toList = [35, 120] from rfl, show (⟨#[35]⟩ : ByteArray).data.toList = [35] from rfl, show (⟨#[35, 120]⟩ : ByteArray).size = 2 from rfl, show (⟨#[35]⟩ : ByteArray).size = 1 from rfl, show (⟨b.toArray⟩ : ByteArray).data.toList = b from rfl]
      have hw : wrap64 (((⟨b.toArray⟩ : ByteArray).size : Int) + 2) = (b.length : Int) + 2 := by rw [hbs, cwr _ (by omega) (by omega)]
      have hend : ∀ x : List UInt8, (if (⟨x.toArray⟩ : ByteArray).toList = ([] : List UInt8) then some ((⟨#[]⟩ : ByteArray), (0 : Int)) else some (⟨x.toArray⟩, wrap64 (((⟨b.toArray⟩ : ByteArray).size : Int) + 2))) = some (⟨(if x = [] then (([] : List UInt8), (0 : Int)) else (x, (b.length : Int) + 2)).1.toArray⟩, (if x = [] then (([] : List UInt8), (0 : Int)) else (x, (b.length : Int) + 2)).2) := by
        intro x
        rw [Lib.toList_data, hw]
        by_cases hx : x = []
        · rw [if_pos hx, if_pos hx]
        · rw [if_neg hx, if_neg hx]
      unfold bodyL
      by_cases p1 : [35, 120].isPrefixOf b = true
      · rw [if_pos p1, if_pos p1]
        simp only [if_true]
        rw [show k + 19 = (k + 3) + 16 from rfl, numbered_f _ 16 (by decide), Option.bind_some, hend]
      · rw [if_neg p1, if_neg p1]
        simp only [if_neg (show ¬ (false = true) by decide)]
        by_cases p2 : [35].isPrefixOf b = true
        · rw [if_pos p2, if_pos p2]
          simp only [if_true]
          rw [show k + 19 = (k + 3) + 16 from rfl, numbered_f _ 10 (by decide), Option.bind_some, hend]
        · rw [if_neg p2, if_neg p2]
          simp only [if_neg (show ¬ (false = true) by decide)]
          rw [hend]
  · rw [if_neg h38]
    have : ((c.toNat : Int) != 38) = true := by
      rw [bne_iff_ne]
      exact fun e => h38 (UInt8.toNat_inj.1 (by simpa using (by omega : c.toNat = 38)))
    rw [this, chars_Entity.j0, if_pos rfl]
end Go.Proofs.Ytlhhhlimjajnlaa.P11
end
section
set_option linter.unusedVariables false
set_option linter.unusedSimpArgs false
namespace Go.Proofs.Ytlhhhlimjajnlaa.X
open Go.RowKit Go.Proofs.Ytlhhhlimjajnlaa Go.Proofs.Ytlhhhlimjajnlaa.Q Go.Proofs.Ytlhhhlimjajnlaa.P11 Go.Proofs.YtlhhhlimjajnlaaW.PrintWords Go.Proofs.YtlhhhlimjajnlaaW.PrintLast Go.Proofs.YtlhhhlimjajnlaaW.PrintMore
variable {w0 W : World} {g : Nat} {d : ByteArray} {a : Int} {ts : List Tok} {x : Bool}
def strLen (v : Value) : Nat := match v with
  | .string s => s.size
  | _ => 0
def DecRel (s s' : ByteArray) (out : List UInt8) : Prop := s'.size ≤ s.size ∧ out.length ≤ 4 * (s.size - s'.size) ∧ dec s.data.toList = (dec s'.data.toList).map (out ++ ·)
theorem indexByte_split (l : List UInt8) (c : UInt8) : (Lib.indexByte l c < 0 → ∀ e, e ∈ l → ¬ e = c) ∧ (0 ≤ Lib.indexByte l c → (∀ e, e ∈ l.take (Lib.indexByte l c).toNat → ¬ e = c) ∧ ∃ t, l.drop (Lib.indexByte l c).toNat = c :: t) := by
  have hge := Lib.indexByte_ge l c
  refine ⟨fun h e he => ?_, fun h => ⟨fun e he => ?_, ?_⟩⟩
  · obtain ⟨k, hk, hke⟩ := List.getElem_of_mem he
    have := Lib.indexByte_none (l := l) (c := c) (by omega) k
    rintro rfl
    exact this (by rw [List.getElem?_eq_getElem hk, hke])
  · obtain ⟨o, ho⟩ : ∃ o : Nat, Lib.indexByte l c = o := ⟨(Lib.indexByte l c).toNat, by omega⟩
    obtain ⟨h1, h2⟩ := Lib.indexByte_some ho
    rw [ho] at he
    obtain ⟨k, hk, hke⟩ := List.getElem_of_mem he
    rw [List.length_take] at hk
    rintro rfl
    refine h2 k (by omega) ?_
    rw [List.getElem_take] at hke
    rw [List.getElem?_eq_getElem (by omega), hke]
  · obtain ⟨o, ho⟩ : ∃ o : Nat, Lib.indexByte l c = o := ⟨(Lib.indexByte l c).toNat, by omega⟩
    obtain ⟨h1, h2⟩ := Lib.indexByte_some ho
    rw [ho]
    obtain ⟨hlt, he⟩ := List.getElem?_eq_some_iff.1 h1
    exact ⟨l.drop (o + 1), by rw [show ((o : Nat) : Int).toNat = o from by omega, List.drop_eq_getElem_cons hlt, he]⟩
theorem own_stays {w w' : World} {B e size n : Nat} {v : Value} {xs : List Value} (h : w.ownsRow B e size v n xs) (hb : Below w.heap.size w w') : w'.ownsRow B e size v n xs := by
  refine ⟨h.1, ?_⟩
  rcases h.2 with hn | ⟨g, cap, cur, rfl, hg, hgg, rest⟩
  · exact .inl hn
  · exact .inr ⟨g, cap, cur, rfl, hg, by rw [hb.block g (Array.getElem?_eq_some_iff.1 hgg).1]; exact hgg, rest⟩
theorem builder_stays {T e : TypeId} {B b : Nat} {bs : List Value} {w w' : World} (h : Lib.IsBuilder T e B b bs w) (hb : Below w.heap.size w w') : Lib.IsBuilder T e B b bs w' := by
  rcases h with ⟨h1, v, h2, h3, h4⟩ | ⟨h1, v, h2, h3, h4⟩
  · exact .inl ⟨h1, v, blk_below h2 hb, own_stays h3 hb, h4⟩
  · exact .inr ⟨h1, v, blk_below h2 hb, own_stays h3 hb, h4⟩
set_option maxHeartbeats 8000000 in
set_option maxRecDepth 100000 in
theorem decode_c (w : World) (h : Rd w0 w g d a ts x) (s : ByteArray) (hs : s.size ≤ 4294967280) :
    Calls Try.prog 61 #[.pointer (some ⟨g, 0, none⟩), .string s] w fun e w' => e = .returned (.string (decS s)) ∧ Rd w0 w' g d a ts (x || decBad s) := by
  have H := Lib.hid h
  have hlt := h.lt
  clear h
  go_enter Try.func61, Try.ntmps61
  go_wp2
  have HI : Hid (Lib.IsBuilder 90 5 w.heap.size w.heap.size (Lib.byteCells []) (w.alloc (.cells #[.pointer none, .slice none 0 0] 90))) := Lib.hid (newBuilder w)
  go_loopw [1] (fun t wr => ∃ s' out, t = .string s' ∧ Hid (DecRel s s' out) ∧ Hid (Lib.IsBuilder 90 5 w.heap.size w.heap.size (Lib.byteCells out) wr) ∧ Hid (Below w.heap.size w wr)) (fun t wr => strLen t)
  case atStart => exact ⟨s, [], rfl, Lib.hid ⟨Nat.le_refl _, by simp, by simp⟩, HI, Lib.hid ((Below.refl _ _).alloc (Nat.le_refl _) _)⟩
  case round =>
    clear HI
    obtain ⟨s', out, rfl, hD, hb, hbw⟩ := hrel
    have hbsz : w.heap.size ≤ wr.heap.size := hbw.out.size
    have hD1 : s'.size ≤ s.size := hD.out.1
    by_cases hE : s'.toList = []
    · have e0 : (s'.toList == []) = true := by rw [hE]; rfl
      have e1 : (s'.toList != []) = false := by rw [hE]; rfl
      have hfin : dec s.data.toList = some out := by
        have := hD.out.2.2
        rw [Lib.toList_data] at hE
        rw [this, hE]; simp [dec_nil]
      have hS : decS s = ⟨out.toArray⟩ := by unfold decS; rw [hfin]; rfl
      have hBd : decBad s = false := by unfold decBad; rw [hfin]; rfl
      have HS := Lib.hid hS
      have HBd := Lib.hid hBd
      clear hE hfin hS hBd hD
      go_wp2_with (go_at_call 72; refine (Try.Builder_String_any w.heap.size w.heap.size _ _ hb.out hbsz).mono ?_)
      rintro e w1 ⟨rfl, hb1⟩
      have HB1 := Lib.hid hb1
      clear hb1
      go_wp2
      go_ret
      exact ⟨by rw [HS.out]; rfl, by rw [HBd.out, Bool.or_false]; exact H.out.below (hbw.out.trans HB1.out)⟩
    · have e0 : (s'.toList == []) = false := beq_eq_false_iff_ne.2 hE
      have e1 : (s'.toList != []) = true := bne_iff_ne.2 hE
      obtain ⟨i, hi⟩ : ∃ i, Lib.indexByte s'.data.toList 38 = i := ⟨_, rfl⟩
      have hsp := indexByte_split s'.data.toList 38
      rw [hi] at hsp
      have hIB : ∀ W : World, Calls Try.prog 62 #[.string s', .int .u8 38] W fun e w' => e = .returned (.int .i64 i) ∧ Drawn0 W w' := fun W => strings_IndexByte.calls s' 38 i W (by rw [← hi]; rfl)
      have hSP := Lib.hid hsp
      clear hsp
      by_cases hn : i < 0
      · have n0 : decide (i < 0) = true := decide_eq_true hn
        have hfin : dec s.data.toList = some (out ++ s'.data.toList) := by
          have h1 := dec_plain s'.data.toList [] (fun e he => hSP.out.1 hn e he)
          rw [List.append_nil] at h1
          rw [hD.out.2.2, h1, dec_nil]; simp
        have HS := Lib.hid (show decS s = ⟨(out ++ s'.data.toList).toArray⟩ by unfold decS; rw [hfin]; rfl)
        have HBd := Lib.hid (show decBad s = false by unfold decBad; rw [hfin]; rfl)
        have HL := Lib.hid (show (Lib.byteCells out).length ≤ 4 * s.size by have := hD.out.2.1; rw [Lib.byteCells_length]; omega)
        clear hfin hn
        go_wp2_with (first | (go_at_call 62; (with_reducible refine (hIB _).mono ?_); rintro e w' ⟨rfl, ⟨nd, rfl⟩⟩))
        go_wp2_with (go_at_call 71; refine (writeString w.heap.size w.heap.size _ _ _ (by first | exact hb.out | exact IsBuilder_drewN hb.out _ | exact IsBuilder_drew hb.out) ?h1 ?h2).mono ?_)
        case h1 => have := HL.out; omega
        case h2 => exact hbsz
        rintro e w1 ⟨rfl, h1, hb1⟩
        have H1 := Lib.hid (show Lib.IsBuilder 90 5 w.heap.size w.heap.size (Lib.byteCells (out ++ s'.data.toList)) w1 from .inr (by rw [Lib.byteCells_append, ← Lib.strCells_eq]; exact h1))
        have hB2 : Below w.heap.size w w1 := hbw.out.trans (by first | exact hb1 | exact (pw_below_drewN (Below.refl _ _) _).trans hb1 | exact (below_drew (pw_below_drewN (Below.refl _ _) _)).trans hb1)
        have HB2 := Lib.hid hB2
        have hbsz1 : w.heap.size ≤ w1.heap.size := hB2.size
        clear h1 hb1 hB2
        go_wp2_with (go_at_call 72; refine (Try.Builder_String_any w.heap.size w.heap.size _ _ H1.out hbsz1).mono ?_)
        rintro e w2 ⟨rfl, hb3⟩
        have HB3 := Lib.hid hb3
        clear hb3
        go_wp2
        go_ret
        exact ⟨by rw [HS.out]; rfl, by rw [HBd.out, Bool.or_false]; exact H.out.below (HB2.out.trans HB3.out)⟩
      · have n0 : decide (i < 0) = false := decide_eq_false hn
        have hi0 : 0 ≤ i := by omega
        obtain ⟨hpre, tl, htl⟩ := hSP.out.2 hi0
        have hsz' : s'.data.toList.length = s'.size := (Lib.size_eq s').symm
        have hi1 : i < (s'.size : Int) := by
          have := congrArg List.length htl
          rw [List.length_drop, List.length_cons] at this; omega
        have hent : entP s'.data.toList i = entL (38 :: tl) := by unfold entP; rw [if_pos ⟨hi0, by omega⟩, htl]
        have hce := centity_f s' i (by omega) 0
        rw [hent] at hce
        have hok := entL_ok (38 :: tl)
        have hlen : (38 :: tl).length = s'.size - i.toNat := by rw [← htl, List.length_drop, hsz']
        rw [hlen] at hok
        have hdec : dec s'.data.toList = (dec (38 :: tl)).map (s'.data.toList.take i.toNat ++ ·) := by
          have := dec_plain (s'.data.toList.take i.toNat) (s'.data.toList.drop i.toNat) hpre
          rw [List.take_append_drop, htl] at this; exact this
        rw [dec_amp] at hdec
        obtain ⟨n, hn'⟩ : ∃ n, (entL (38 :: tl)).2 = n := ⟨_, rfl⟩
        obtain ⟨E, hE'⟩ : ∃ E, (entL (38 :: tl)).1 = E := ⟨_, rfl⟩
        rw [hn', hE'] at hok hdec hce
        have hdr : (38 :: tl).drop n.toNat = s'.data.toList.drop (i + n).toNat := by
          rw [← htl, List.drop_drop]; congr 1; have := hok.2.1; omega
        rw [hdr] at hdec
        have hn0 : 0 ≤ n := hok.2.1
        have hn1 : i + n ≤ (s'.size : Int) := by have := hok.2.2.1; omega
        have HE4 := Lib.hid hok.1
        have HDE := Lib.hid hdec
        have hEnt : ∀ W : World, Calls Try.prog 73 #[.string s', .int .i64 i] W fun e w' => e = .returned (.tuple #[.string ⟨E.toArray⟩, .int .i64 n]) ∧ Below W.heap.size W w' := fun W => chars_Entity.calls 20 s' i ⟨E.toArray⟩ n W hce
        have g0 : decide (0 ≤ i) = true := decide_eq_true hi0
        have g1 : decide (i ≤ (s'.size : Int)) = true := decide_eq_true (by omega)
        have g0' := eq_true hi0
        have g1' := eq_true (show i ≤ (s'.size : Int) by omega)
        have hw1 : IntKind.i64.wrap (i + n) = i + n := by unfold IntKind.wrap; simp [IntKind.bits, IntKind.signed]; omega
        have hw2 : wrap64 (i + n) = i + n := by unfold wrap64; omega
        have g2 : decide (0 ≤ i + n) = true := decide_eq_true (by omega)
        have g3 : decide (i + n ≤ (s'.size : Int)) = true := decide_eq_true hn1
        have g2' := eq_true (show 0 ≤ i + n by omega)
        have g3' := eq_true hn1
        clear hpre htl hent hce hok hlen hdec hdr hn' hE'
        have HL := Lib.hid (show (Lib.byteCells out).length ≤ 4 * s.size by have := hD.out.2.1; rw [Lib.byteCells_length]; omega)
        have hex : (s'.extract 0 i.toNat).data.toList = s'.data.toList.take i.toNat := by rw [Lib.extract_data, List.drop_zero, Nat.sub_zero]
        have HX := Lib.hid hex
        have hexs : (s'.extract 0 i.toNat).size ≤ s.size := by rw [Lib.size_eq, hex, List.length_take]; omega
        clear hex
        go_wp2_with (first | (go_at_call 62; (with_reducible refine (hIB _).mono ?_); rintro e w' ⟨rfl, ⟨nd, rfl⟩⟩) | (go_at_call 71; refine (writeString w.heap.size w.heap.size _ _ _ (by exact hb.out) ?h1 ?h2).mono ?_))
        case h1 => have := HL.out; omega
        case h2 => exact hbsz
        rintro e w1 ⟨rfl, h1, hb1⟩
        have H1 := Lib.hid (show Lib.IsBuilder 90 5 w.heap.size w.heap.size (Lib.byteCells (out ++ s'.data.toList.take i.toNat)) w1 from .inr (by rw [Lib.byteCells_append, ← HX.out, ← Lib.strCells_eq]; exact h1))
        have hB2 : Below w.heap.size w w1 := hbw.out.trans (by first | exact hb1 | exact (pw_below_drewN (Below.refl _ _) _).trans hb1 | exact (below_drew (pw_below_drewN (Below.refl _ _) _)).trans hb1)
        have HB2 := Lib.hid hB2
        have hbsz1 : w.heap.size ≤ w1.heap.size := hB2.size
        clear h1 hb1 hB2
        go_wp2_with (go_at_call 73; refine (hEnt _).mono ?_)
        rintro e w2 ⟨rfl, hb3⟩
        have H2 := Lib.hid (builder_stays H1.out hb3)
        have hB4 := below_step HB2.out hb3
        have HB4 := Lib.hid hB4
        have hbsz2 : w.heap.size ≤ w2.heap.size := hB4.size
        clear hb3 hB4 H1 HB2
        by_cases hz : n = 0
        · have hfin : dec s.data.toList = none := by
            have := HDE.out
            rw [if_pos hz] at this
            rw [hD.out.2.2, this]; rfl
          have HS := Lib.hid (show decS s = ⟨#[]⟩ by unfold decS; rw [hfin]; rfl)
          have HBd := Lib.hid (show decBad s = true by unfold decBad; rw [hfin]; rfl)
          have HR := H.out.below HB4.out
          have hc3 := HR.c3
          have hf3 := HR.f 3
          have HR' := Lib.hid HR
          have z0 : (n == 0) = true := by rw [hz]; rfl
          clear HR hfin
          go_wp2
          go_ret
          exact ⟨by rw [HS.out]; rfl, by rw [HBd.out, Bool.or_true]; first | exact HR'.out.set3 true | exact (HR'.out.drew).set3 true | exact (HR'.out.drewN _).set3 true⟩
        · have z0 : (n == 0) = false := beq_eq_false_iff_ne.2 hz
          have hn1' : 1 ≤ n := by omega
          have hes : (⟨E.toArray⟩ : ByteArray).size = E.length := by simp [ByteArray.size]
          have hout : (out ++ s'.data.toList.take i.toNat ++ E).length ≤ 4 * (s.size - (s'.extract (i + n).toNat s'.size).size) := by
            have h1 := hD.out.2.1
            have h2 := HE4.out
            rw [List.length_append, List.length_append, List.length_take, Lib.size_eq, Lib.size_eq, Lib.size_eq, Lib.extract_data, List.length_take, List.length_drop]
            rw [Lib.size_eq, Lib.size_eq] at h1
            have := Lib.size_eq s
            have := Lib.size_eq s'
            omega
          have hsl : (s'.extract (i + n).toNat s'.size).size < s'.size := by
            rw [Lib.size_eq, Lib.extract_data, List.length_take, List.length_drop, ← Lib.size_eq]; omega
          have hexd : (s'.extract (i + n).toNat s'.size).data.toList = s'.data.toList.drop (i + n).toNat := by
            rw [Lib.extract_data, List.take_of_length_le (by rw [List.length_drop, ← Lib.size_eq]; omega)]
          have hrel2 : DecRel s (s'.extract (i + n).toNat s'.size) (out ++ s'.data.toList.take i.toNat ++ E) := by
            refine ⟨by omega, hout, ?_⟩
            have := HDE.out
            rw [if_neg hz] at this
            rw [hD.out.2.2, this, hexd]
            cases dec (s'.data.toList.drop (i + n).toNat) <;> simp [List.append_assoc]
          have HR2 := Lib.hid hrel2
          have HSL := Lib.hid hsl
          have HES := Lib.hid hes
          have HO := Lib.hid hout
          clear hrel2 hsl hes hout
          go_wp2_with (go_at_call 71; refine (writeString w.heap.size w.heap.size _ _ _ (by exact H2.out) ?h3 ?h4).mono ?_)
          case h3 =>
            have h1 := HO.out
            have h2 := HES.out
            rw [List.length_append] at h1
            rw [Lib.byteCells_length]
            omega
          case h4 => exact hbsz2
          rintro e w3 ⟨rfl, h1, hb1⟩
          have H3 := Lib.hid (show Lib.IsBuilder 90 5 w.heap.size w.heap.size (Lib.byteCells (out ++ s'.data.toList.take i.toNat ++ E)) w3 from .inr (by rw [Lib.byteCells_append (out ++ s'.data.toList.take i.toNat)]; exact h1))
          have HB3 := Lib.hid (HB4.out.trans hb1)
          clear h1 hb1
          go_wp2
          go_roundw
          case rel => exact ⟨_, _, rfl, HR2, H3, HB3⟩
          case measure => exact HSL.out
end Go.Proofs.Ytlhhhlimjajnlaa.X
end
section
set_option linter.unusedVariables false
set_option linter.unusedSimpArgs false
namespace Go.Proofs.Ytlhhhlimjajnlaa.X
open Go.RowKit Go.Proofs.Ytlhhhlimjajnlaa Go.Proofs.Ytlhhhlimjajnlaa.Q Go.Proofs.Ytlhhhlimjajnlaa.P11 Go.Proofs.YtlhhhlimjajnlaaW.PrintWords Go.Proofs.YtlhhhlimjajnlaaW.PrintLast Go.Proofs.YtlhhhlimjajnlaaW.PrintMore
variable {w0 W : World} {g : Nat} {d : ByteArray} {a : Int} {ts : List Tok} {x : Bool}
theorem G.drewN {w : World} (h : G w) (n : Nat) : G (w.drewN n) := h
def Step (w0 w' : World) (g : Nat) (d : ByteArray) (ts : List Tok) (r : Option (List Tok × Int)) : Prop := match r with
  | some (new, a') => Rd w0 w' g d a' (ts ++ new) false
  | none => ∃ a' ts', Rd w0 w' g d a' ts' true
def commentP (l : List UInt8) (a : Int) : Option (List Tok × Int) :=
  let body := l.drop (a.toNat + 4)
  let i := Lib.index body [45, 45]
  if i < 0 then none
  else if Lib.hasPrefix (body.drop i.toNat) [45, 45, 62] then some ([⟨7, a, a + 4 + i + 3, ⟨#[]⟩, ⟨(body.take i.toNat).toArray⟩⟩], a + 4 + i + 3) else none
set_option maxHeartbeats 8000000 in
set_option maxRecDepth 100000 in
theorem comment_c (w : World) (h : Rd w0 w g d a ts false) (hG : G w0) (hl : ts.length ≤ 1000000) (hs : d.size ≤ 4294967280) (h0 : 0 ≤ a) (h4 : a + 4 ≤ (d.size : Int)) :
    Calls Try.prog 37 #[.pointer (some ⟨g, 0, none⟩)] w fun e w' => e = .returned (.tuple #[]) ∧ Step w0 w' g d ts (commentP d.data.toList a) := by
  have H := Lib.hid h
  have hex : (d.extract a.toNat d.size).size = d.size - a.toNat := by rw [Lib.size_eq, Lib.extract_data, List.length_take, List.length_drop, ← Lib.size_eq]; omega
  obtain ⟨B, hB⟩ : ∃ B, (d.extract a.toNat d.size).extract 4 (d.size - a.toNat) = B := ⟨_, rfl⟩
  have hBl : B.data.toList = d.data.toList.drop (a.toNat + 4) := by
    rw [← hB, Lib.extract_data, Lib.extract_data]
    rw [List.take_of_length_le (l := d.data.toList.drop a.toNat) (by rw [List.length_drop, ← Lib.size_eq]; exact Nat.le_refl _), List.drop_drop, List.take_of_length_le (by rw [List.length_drop, ← Lib.size_eq]; omega)]
  have hBs : B.size ≤ 4294967280 := by rw [Lib.size_eq, hBl, List.length_drop, ← Lib.size_eq]; omega
  obtain ⟨m, hm⟩ := hG
  have hcell : ∀ W, Below w0.heap.size w0 W → W.cell? ⟨0, 0, none⟩ = some (.int .i64 m) := fun W hb => by
    have hlt := World.block_lt_of_cell? _ _ hm
    rw [← hm]; unfold World.cell?
    simp only [hb.block 0 hlt]
  have hIx : ∀ W, Below w0.heap.size w0 W → Calls Try.prog 55 #[.string B, .string ⟨#[45, 45]⟩] W fun e w' => e = .returned (.int .i64 (Lib.index B.data.toList [45, 45])) ∧ w' = W := fun W hb => Try.strings_Index B ⟨#[45, 45]⟩ m W (by omega) (hcell W hb)
  obtain ⟨i, hi⟩ : ∃ i, Lib.index B.data.toList [45, 45] = i := ⟨_, rfl⟩
  rw [hi] at hIx
  have hB2 : (d.extract a.toNat d.size).extract 4 (d.extract a.toNat d.size).size = B := by rw [hex, hB]
  have HIx := Lib.hid hIx
  clear hIx hcell hm hex
  have hi' : Lib.index (d.data.toList.drop (a.toNat + 4)) [45, 45] = i := by rw [← hBl]; exact hi
  by_cases hn : i < 0
  · have n0 : decide (i < 0) = true := decide_eq_true hn
    have hS : commentP d.data.toList a = none := by unfold commentP; simp only [hi']; rw [if_pos hn]
    rw [hS]
    clear hS
    go_enter Try.func37, Try.ntmps37
    go_wp2_with (first | (go_at_call 54; (with_reducible refine (left_c _ H.out h0 (by omega)).mono ?_); rintro e w' ⟨rfl, n1, rfl⟩) | (go_at_call 55; (with_reducible refine (HIx.out _ (by first | exact H.out.bel | exact (H.out.drewN _).bel)).mono ?_); rintro e w' ⟨rfl, rfl⟩) | (go_at_call 56; (with_reducible refine (fails_c _ (by first | exact H.out | exact H.out.drewN _)).mono ?_); rintro e w' ⟨rfl, hf⟩))
    first | go_end0 | go_ret | ((try simp only [Exit.inBlock, Exit.then]); refine bodyPost_ret (results_none rfl _ _ _) rfl ?_)
    exact ⟨rfl, _, _, hf⟩
  · have n0 : decide (i < 0) = false := decide_eq_false hn
    have hi0 : 0 ≤ i := by omega
    have hi1 : i ≤ (B.size : Int) := by rw [← hi, Lib.size_eq]; exact Lib.index_le _ _
    have e0 : decide (0 ≤ i) = true := decide_eq_true hi0
    have e1 : decide (i ≤ (B.size : Int)) = true := decide_eq_true hi1
    have e0' := eq_true hi0
    have e1' := eq_true hi1
    obtain ⟨p, hp⟩ : ∃ p, Lib.hasPrefix (B.data.toList.drop i.toNat) [45, 45, 62] = p := ⟨_, rfl⟩
    have hPx : ∀ W, Calls Try.prog 53 #[.string (B.extract i.toNat B.size), .string ⟨#[45, 45, 62]⟩] W fun e w' => e = .returned (.bool p) ∧ w' = W := fun W => by
      have := Try.strings_HasPrefix (B.extract i.toNat B.size) ⟨#[45, 45, 62]⟩ W
      rw [Lib.extract_data, List.take_of_length_le (by rw [List.length_drop, ← Lib.size_eq]; omega)] at this
      rw [← hp]; exact this
    have HPx := Lib.hid hPx
    clear hPx
    cases p with
    | false =>
      have hS : commentP d.data.toList a = none := by unfold commentP; simp only [hi']; rw [if_neg hn, ← hBl, hp]; rfl
      rw [hS]
      clear hS
      go_enter Try.func37, Try.ntmps37
      go_wp2_with (first | (go_at_call 54; (with_reducible refine (left_c _ H.out h0 (by omega)).mono ?_); rintro e w' ⟨rfl, n1, rfl⟩) | (go_at_call 55; (with_reducible refine (HIx.out _ (by first | exact H.out.bel | exact (H.out.drewN _).bel)).mono ?_); rintro e w' ⟨rfl, rfl⟩) | (go_at_call 53; (with_reducible refine (HPx.out _).mono ?_); rintro e w' ⟨rfl, rfl⟩) | (go_at_call 56; (with_reducible refine (fails_c _ (by first | exact H.out | exact H.out.drewN _)).mono ?_); rintro e w' ⟨rfl, hf⟩))
      first | go_end0 | go_ret | ((try simp only [Exit.inBlock, Exit.then]); refine bodyPost_ret (results_none rfl _ _ _) rfl ?_)
      exact ⟨rfl, _, _, hf⟩
    | true =>
      have hS : commentP d.data.toList a = some ([⟨7, a, a + 4 + i + 3, ⟨#[]⟩, B.extract 0 i.toNat⟩], a + 4 + i + 3) := by
        unfold commentP; simp only [hi']; rw [if_neg hn, ← hBl, hp]
        have : (B.extract 0 i.toNat) = ⟨(B.data.toList.take i.toNat).toArray⟩ := by
          apply ByteArray.ext; apply Array.ext'; rw [Lib.extract_data]; simp
        rw [this]; rfl
      rw [hS]
      clear hS
      go_enter Try.func37, Try.ntmps37
      go_wp2_with (first | (go_at_call 54; (with_reducible refine (left_c _ H.out h0 (by omega)).mono ?_); rintro e w' ⟨rfl, n1, rfl⟩) | (go_at_call 55; (with_reducible refine (HIx.out _ (by first | exact H.out.bel | exact (H.out.drewN _).bel)).mono ?_); rintro e w' ⟨rfl, rfl⟩) | (go_at_call 53; (with_reducible refine (HPx.out _).mono ?_); rintro e w' ⟨rfl, rfl⟩))
      have HR := H.out.drewN n1
      have hc0 := H.out.c1
      have hc1 := HR.c1
      have hc2 := HR.drew.c1
      have HR' := Lib.hid HR
      clear HR
      have hw : IntKind.i64.wrap (IntKind.i64.wrap (IntKind.i64.wrap (a + 4) + i) + 3) = a + 4 + i + 3 := by rw [IntKind.wrap_i64, IntKind.wrap_i64, IntKind.wrap_i64]; omega
      go_region_with (go_at_call 57; refine (tell_c (w0 := w0) (g := g) (d := d) (a := a) (ts := ts) (x := false) _ (H.out.drewN _) 7 a _ _ _ hl).mono ?_; rintro e w' ⟨rfl, hr⟩)
      all_goals
        go_wp2
        first | go_end0 | ((try simp only [Exit.inBlock, Exit.then]); refine bodyPost_ret (results_none rfl _ _ _) rfl ?_)
        exact ⟨rfl, hr⟩
end Go.Proofs.Ytlhhhlimjajnlaa.X
end
section
set_option linter.unusedVariables false
set_option linter.unusedSimpArgs false
namespace Go.Proofs.Ytlhhhlimjajnlaa.X
open Go.RowKit Go.Proofs.Ytlhhhlimjajnlaa Go.Proofs.Ytlhhhlimjajnlaa.Q Go.Proofs.Ytlhhhlimjajnlaa.P11 Go.Proofs.YtlhhhlimjajnlaaW.PrintWords Go.Proofs.YtlhhhlimjajnlaaW.PrintLast Go.Proofs.YtlhhhlimjajnlaaW.PrintMore
variable {w0 W : World} {g : Nat} {d : ByteArray} {a : Int} {ts : List Tok} {x : Bool}
theorem cut_le (l s : List UInt8) : (Lib.cut l s).1.length ≤ l.length := by
  unfold Lib.cut
  split <;> simp <;> omega
def plainP (l : List UInt8) (a : Int) : Option (List Tok × Int) :=
  let c := Lib.cut (l.drop (a.toNat + 9)) [93, 93, 62]
  if c.2.2 = true then some ([⟨6, a, a + 9 + (c.1.length : Int) + 3, ⟨#[]⟩, ⟨c.1.toArray⟩⟩], a + 9 + (c.1.length : Int) + 3) else none
set_option maxHeartbeats 8000000 in
set_option maxRecDepth 100000 in
theorem plain_c (w : World) (h : Rd w0 w g d a ts false) (hG : G w0) (hl : ts.length ≤ 1000000) (hs : d.size ≤ 4294967280) (h0 : 0 ≤ a) (h4 : a + 9 ≤ (d.size : Int)) :
    Calls Try.prog 38 #[.pointer (some ⟨g, 0, none⟩)] w fun e w' => e = .returned (.tuple #[]) ∧ Step w0 w' g d ts (plainP d.data.toList a) := by
  have H := Lib.hid h
  have hex : (d.extract a.toNat d.size).size = d.size - a.toNat := by rw [Lib.size_eq, Lib.extract_data, List.length_take, List.length_drop, ← Lib.size_eq]; omega
  obtain ⟨B, hB⟩ : ∃ B, (d.extract a.toNat d.size).extract 9 (d.size - a.toNat) = B := ⟨_, rfl⟩
  have hBl : B.data.toList = d.data.toList.drop (a.toNat + 9) := by
    rw [← hB, Lib.extract_data, Lib.extract_data]
    rw [List.take_of_length_le (l := d.data.toList.drop a.toNat) (by rw [List.length_drop, ← Lib.size_eq]; exact Nat.le_refl _), List.drop_drop, List.take_of_length_le (by rw [List.length_drop, ← Lib.size_eq]; omega)]
  have hBs : B.size ≤ 4294967280 := by rw [Lib.size_eq, hBl, List.length_drop, ← Lib.size_eq]; omega
  have hB2 : (d.extract a.toNat d.size).extract 9 (d.extract a.toNat d.size).size = B := by rw [hex, hB]
  obtain ⟨m, hm⟩ := hG
  have hcell : ∀ W, Below w0.heap.size w0 W → W.cell? ⟨0, 0, none⟩ = some (.int .i64 m) := fun W hb => by
    have hlt := World.block_lt_of_cell? _ _ hm
    rw [← hm]; unfold World.cell?
    simp only [hb.block 0 hlt]
  obtain ⟨C1, hC1⟩ : ∃ C1, (⟨(Lib.cut B.data.toList [93, 93, 62]).1.toArray⟩ : ByteArray) = C1 := ⟨_, rfl⟩
  obtain ⟨C2, hC2⟩ : ∃ C2, (⟨(Lib.cut B.data.toList [93, 93, 62]).2.1.toArray⟩ : ByteArray) = C2 := ⟨_, rfl⟩
  obtain ⟨q, hq⟩ : ∃ q, (Lib.cut B.data.toList [93, 93, 62]).2.2 = q := ⟨_, rfl⟩
  have hCx : ∀ W, Below w0.heap.size w0 W → Calls Try.prog 58 #[.string B, .string ⟨#[93, 93, 62]⟩] W fun e w' => e = .returned (.tuple #[.string C1, .string C2, .bool q]) ∧ ∃ n, w' = W.drewN n := fun W hb => by
    have := Try.strings_Cut B ⟨#[93, 93, 62]⟩ m W (by omega) (hcell W hb)
    rw [← hC1, ← hC2, ← hq]; exact this
  have HCx := Lib.hid hCx
  have hC1l : C1.data.toList = (Lib.cut B.data.toList [93, 93, 62]).1 := by rw [← hC1]
  have hC1s : C1.size ≤ B.size := by
    rw [Lib.size_eq, Lib.size_eq, hC1l]; exact cut_le _ _
  clear hCx hcell hm hex hC1 hC2
  cases q with
  | false =>
    have hS : plainP d.data.toList a = none := by unfold plainP; simp only [← hBl, hq]; rfl
    rw [hS]
    clear hS
    go_enter Try.func38, Try.ntmps38
    go_wp2_with (first | (go_at_call 54; (with_reducible refine (left_c _ H.out h0 (by omega)).mono ?_); rintro e w' ⟨rfl, n1, rfl⟩) | (go_at_call 58; (with_reducible refine (HCx.out _ (by first | exact H.out.bel | exact (H.out.drewN _).bel)).mono ?_); rintro e w' ⟨rfl, n2, rfl⟩) | (go_at_call 56; (with_reducible refine (fails_c _ (by first | exact H.out | exact H.out.drewN _)).mono ?_); rintro e w' ⟨rfl, hf⟩))
    first | go_end0 | go_ret | ((try simp only [Exit.inBlock, Exit.then]); refine bodyPost_ret (results_none rfl _ _ _) rfl ?_)
    exact ⟨rfl, _, _, hf⟩
  | true =>
    have hS : plainP d.data.toList a = some ([⟨6, a, a + 9 + (C1.size : Int) + 3, ⟨#[]⟩, C1⟩], a + 9 + (C1.size : Int) + 3) := by
      unfold plainP; simp only [← hBl, hq, ← hC1l, if_true]; rfl
    rw [hS]
    clear hS
    go_enter Try.func38, Try.ntmps38
    go_wp2_with (first | (go_at_call 54; (with_reducible refine (left_c _ H.out h0 (by omega)).mono ?_); rintro e w' ⟨rfl, n1, rfl⟩) | (go_at_call 58; (with_reducible refine (HCx.out _ (by first | exact H.out.bel | exact (H.out.drewN _).bel)).mono ?_); rintro e w' ⟨rfl, n2, rfl⟩))
    have HR := H.out.drewN n1
    have hc0 := H.out.c1
    have hc1 := HR.c1
    have hc2 := (HR.drewN n2).c1
    have hc3 := (HR.drewN n2).drew.c1
    clear HR
    have hw : IntKind.i64.wrap (IntKind.i64.wrap (IntKind.i64.wrap (a + 9) + (C1.size : Int)) + 3) = a + 9 + (C1.size : Int) + 3 := by rw [IntKind.wrap_i64, IntKind.wrap_i64, IntKind.wrap_i64]; omega
    go_region_with (go_at_call 57; refine (tell_c (w0 := w0) (g := g) (d := d) (a := a) (ts := ts) (x := false) _ (H.out.drewN _) 6 a _ _ _ hl).mono ?_; rintro e w' ⟨rfl, hr⟩)
    all_goals
      go_wp2
      first | go_end0 | ((try simp only [Exit.inBlock, Exit.then]); refine bodyPost_ret (results_none rfl _ _ _) rfl ?_)
      exact ⟨rfl, hr⟩
def textP (l : List UInt8) (a : Int) : Option (List Tok × Int) :=
  let b := (Lib.cut (l.drop a.toNat) [60]).1
  match dec b with
  | some v => some ([⟨6, a, a + (b.length : Int), ⟨#[]⟩, ⟨v.toArray⟩⟩], a + (b.length : Int))
  | none => none
set_option maxHeartbeats 8000000 in
set_option maxRecDepth 100000 in
theorem text_c (w : World) (h : Rd w0 w g d a ts false) (hG : G w0) (hl : ts.length ≤ 1000000) (hs : d.size ≤ 4294967280) (h0 : 0 ≤ a) (h4 : a ≤ (d.size : Int)) :
    Calls Try.prog 41 #[.pointer (some ⟨g, 0, none⟩)] w fun e w' => e = .returned (.tuple #[]) ∧ Step w0 w' g d ts (textP d.data.toList a) := by
  have H := Lib.hid h
  obtain ⟨B, hB⟩ : ∃ B, d.extract a.toNat d.size = B := ⟨_, rfl⟩
  have hBl : B.data.toList = d.data.toList.drop a.toNat := by
    rw [← hB, Lib.extract_data, List.take_of_length_le (by rw [List.length_drop, ← Lib.size_eq]; exact Nat.le_refl _)]
  have hBs : B.size ≤ d.size := by rw [Lib.size_eq, hBl, List.length_drop, ← Lib.size_eq]; omega
  obtain ⟨m, hm⟩ := hG
  have hcell : ∀ W, Below w0.heap.size w0 W → W.cell? ⟨0, 0, none⟩ = some (.int .i64 m) := fun W hb => by
    have hlt := World.block_lt_of_cell? _ _ hm
    rw [← hm]; unfold World.cell?
    simp only [hb.block 0 hlt]
  obtain ⟨C1, hC1⟩ : ∃ C1, (⟨(Lib.cut B.data.toList [60]).1.toArray⟩ : ByteArray) = C1 := ⟨_, rfl⟩
  obtain ⟨C2, hC2⟩ : ∃ C2, (⟨(Lib.cut B.data.toList [60]).2.1.toArray⟩ : ByteArray) = C2 := ⟨_, rfl⟩
  obtain ⟨q, hq⟩ : ∃ q, (Lib.cut B.data.toList [60]).2.2 = q := ⟨_, rfl⟩
  have hCx : ∀ W, Below w0.heap.size w0 W → Calls Try.prog 58 #[.string B, .string ⟨#[60]⟩] W fun e w' => e = .returned (.tuple #[.string C1, .string C2, .bool q]) ∧ ∃ n, w' = W.drewN n := fun W hb => by
    have := Try.strings_Cut B ⟨#[60]⟩ m W (by omega) (hcell W hb)
    rw [← hC1, ← hC2, ← hq]; exact this
  have HCx := Lib.hid hCx
  have hC1l : C1.data.toList = (Lib.cut B.data.toList [60]).1 := by rw [← hC1]
  have hC1s : C1.size ≤ B.size := by
    rw [Lib.size_eq, Lib.size_eq, hC1l]; exact cut_le _ _
  clear hCx hcell hm hC1 hC2
  have hS : ∀ w', Rd w0 w' g d (a + (C1.size : Int)) (ts ++ [⟨6, a, a + (C1.size : Int), ⟨#[]⟩, decS C1⟩]) (false || decBad C1) → Step w0 w' g d ts (textP d.data.toList a) := by
    intro w' hr
    unfold textP
    simp only [← hBl, ← hC1l]
    cases hd : dec C1.data.toList with
    | none =>
      have : decBad C1 = true := by unfold decBad; rw [hd]; rfl
      rw [this] at hr
      exact ⟨_, _, hr⟩
    | some v =>
      have hb : decBad C1 = false := by unfold decBad; rw [hd]; rfl
      have hv : decS C1 = ⟨v.toArray⟩ := by unfold decS; rw [hd]; rfl
      rw [hb, hv] at hr
      exact hr
  have HS := Lib.hid hS
  clear hS
  go_enter Try.func41, Try.ntmps41
  go_wp2_with (first | (go_at_call 54; (with_reducible refine (left_c _ H.out h0 (by omega)).mono ?_); rintro e w' ⟨rfl, n1, rfl⟩) | (go_at_call 58; (with_reducible refine (HCx.out _ (by first | exact H.out.bel | exact (H.out.drewN _).bel)).mono ?_); rintro e w' ⟨rfl, n2, rfl⟩))
  have HR := H.out.drewN n1
  have hc0 := H.out.c1
  have hc1 := HR.c1
  have hc2 := (HR.drewN n2).c1
  have hc3 := (HR.drewN n2).drew.c1
  clear HR
  have hw : IntKind.i64.wrap (a + (C1.size : Int)) = a + (C1.size : Int) := by rw [IntKind.wrap_i64]; omega
  go_region_with (first | (go_at_call 61; refine (decode_c (w0 := w0) (g := g) (d := d) (a := a) (ts := ts) (x := false) _ (H.out.drewN _) C1 (by omega)).mono ?_; rintro e w' ⟨rfl, hr⟩; have hc8 := hr.c1) | (go_at_call 57; refine (tell_c (w0 := w0) (g := g) (d := d) (a := a) (ts := ts) (x := false || decBad C1) _ (by assumption) 6 a _ _ _ hl).mono ?_; rintro e w' ⟨rfl, ht⟩))
  all_goals
    go_wp2
    first | go_end0 | ((try simp only [Exit.inBlock, Exit.then]); refine bodyPost_ret (results_none rfl _ _ _) rfl ?_)
    exact ⟨rfl, HS.out _ ht⟩
end Go.Proofs.Ytlhhhlimjajnlaa.X
end
section
set_option linter.unusedVariables false
set_option linter.unusedSimpArgs false
namespace Go.Proofs.Ytlhhhlimjajnlaa.P11
open Go Go.RowKit Go.Proofs.Ytlhhhlimjajnlaa Go.Proofs.Ytlhhhlimjajnlaa.Q Go.Proofs.YtlhhhlimjajnlaaW.PrintWords Go.Proofs.Ytlhhhlimjajnlaa.X
theorem valid_at (s : ByteArray) (n : Nat) (hn : n < s.size) : validL (s.data.toList.drop n) = (decide (0 < (runeP s.data.toList n).2) && allowedB (runeP s.data.toList n).1 && validL (s.data.toList.drop (n + (runeP s.data.toList n).2.toNat))) := by
  have hp : runeP s.data.toList (n : Int) = decL (s.data.toList.drop n) := by
    unfold runeP
    rw [if_pos ⟨by omega, by rw [clen]; omega⟩, Int.toNat_natCast]
  rw [hp, cdrop_cons s n hn, valid_cons, ← cdrop_cons s n hn, List.drop_drop]
theorem valid_l0 (d : Nat) : ∀ (s : ByteArray) (k : Nat), s.size = d → s.size ≤ 4294967296 → d + 2 ≤ k → chars_Valid.l0 k s = some (validL s.data.toList) := by
  induction d using Nat.strongRecOn with
  | ind d ih =>
    intro s k hd hs hk
    obtain ⟨k, rfl⟩ : ∃ m, k = m + 2 := ⟨k - 2, by omega⟩
    rw [chars_Valid.l0]
    by_cases hlt : 0 < s.size
    · rw [if_pos (by omega), chars_Rune.f, if_pos hs, Option.bind_some]
      have hv := valid_at s 0 hlt
      have hp : runeP s.data.toList ((0 : Nat) : Int) = decL (s.data.toList.drop 0) := by
        unfold runeP
        rw [if_pos ⟨by omega, by rw [clen]; omega⟩, Int.toNat_natCast]
      have hr := dec_range (s.data.toList.drop 0)
      rw [← hp, List.length_drop, clen] at hr
      rw [List.drop_zero, Nat.zero_add] at hv
      have e0 : ((0 : Nat) : Int) = 0 := rfl
      rw [e0] at hv hr
      rw [hv]
      by_cases h0 : (runeP s.data.toList 0).2 = 0
      · rw [if_pos h0, h0]; rfl
      · rw [if_neg h0, callowed_f, Option.bind_some, show decide (0 < (runeP s.data.toList 0).2) = true from by simp; omega, Bool.true_and]
        by_cases ha : allowedB (runeP s.data.toList 0).1 = true
        · rw [if_pos ha, ha, Bool.true_and, if_pos (by omega), if_pos (by omega)]
          have hdat : (s.extract (runeP s.data.toList 0).2.toNat s.size).data.toList = s.data.toList.drop (runeP s.data.toList 0).2.toNat := by
            rw [Lib.extract_data, List.take_of_length_le (by rw [List.length_drop, clen]; exact Nat.le_refl _)]
          have hsz : (s.extract (runeP s.data.toList 0).2.toNat s.size).size = s.size - (runeP s.data.toList 0).2.toNat := by rw [Lib.size_eq, hdat, List.length_drop, clen]
          rw [← hdat]
          exact ih (s.size - (runeP s.data.toList 0).2.toNat) (by omega) _ _ hsz (by omega) (by omega)
        · rw [if_neg ha, show allowedB (runeP s.data.toList 0).1 = false from by simpa using ha]; rfl
    · have : s.data.toList = [] := List.eq_nil_of_length_eq_zero (by rw [clen]; omega)
      rw [if_neg (by omega), this]; rfl
theorem valid_f (s : ByteArray) (hs : s.size ≤ 4294967296) (k : Nat) : chars_Valid.f (s.size + 2 + k) s = some (validL s.data.toList) := valid_l0 s.size s _ rfl hs (by omega)
end Go.Proofs.Ytlhhhlimjajnlaa.P11
end
