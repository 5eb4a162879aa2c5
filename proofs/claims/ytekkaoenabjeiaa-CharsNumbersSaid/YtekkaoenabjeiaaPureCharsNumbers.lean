/- Whatever number: its decimal and its hexadecimal digits are read again as the number, if it may be written, and else stand for nothing. No condition. -/
import Derived.Test.YtekkaoenabjeiaaQ13
import Derived.Test.YtekkaoenabjeiaaP11f
set_option linter.unusedVariables false
set_option linter.unusedSimpArgs false
namespace Go.Proofs.Ytekkaoenabjeiaa.Pure
open Go Go.RowKit Go.Proofs.Ytekkaoenabjeiaa Go.Proofs.Ytekkaoenabjeiaa.Q Go.Proofs.YtekkaoenabjeiaaW.PrintWords Go.Proofs.Ytekkaoenabjeiaa.X Go.Proofs.Ytekkaoenabjeiaa.P11

theorem digitsV_cons (b n : Int) (c : UInt8) (t : List UInt8) : digitsV b n (c :: t) = if 0 ≤ digitV c ∧ digitV c < b then digitsV b (n * b + digitV c) t else none := rfl
theorem digits_no (b : Int) : ∀ (l : List UInt8) (n r : Int), digitsV b n l = some r → ∀ c, c ∈ l → 0 ≤ digitV c
  | [], _, _, _, c, hc => absurd hc (List.not_mem_nil)
  | a :: t, n, r, h, c, hc => by
    rw [digitsV_cons] at h
    by_cases g : 0 ≤ digitV a ∧ digitV a < b
    · rw [if_pos g] at h
      rcases List.mem_cons.1 hc with rfl | hc
      · exact g.1
      · exact digits_no b t _ r h c hc
    · rw [if_neg g] at h; cases h
theorem upTo_end : ∀ (l : List UInt8) (c : UInt8), (∀ d, d ∈ l → d ≠ c) → upTo c (l ++ [c]) = some l
  | [], c, _ => by show (if c = c then some [] else _) = _; rw [if_pos rfl]
  | a :: t, c, h => by
    show (if a = c then some [] else (upTo c (t ++ [c])).map (a :: ·)) = _
    rw [if_neg (h a (List.mem_cons_self ..)), upTo_end t c (fun d hd => h d (List.mem_cons_of_mem _ hd))]; rfl
theorem digit59 : digitV 59 = -1 := by decide
theorem digit120 : digitV 120 = -1 := by decide
theorem allowed_point (c : Int) (h : allowedB c = true) : pointB c = true := by
  unfold allowedB at h; unfold pointB
  simp at h ⊢
  rcases h with h | h
  · omega
  · unfold pointB at h; simp at h; exact h.2
theorem numd_at (b a : Int) (l : List UInt8) (hl : digitsV b 0 l = some a) (hne : l ≠ []) (h8 : l.length ≤ 8) : numdL b l = if allowedB a then encL a else [] := by
  unfold numdL
  rw [if_neg (by rintro (h | h); exact hne h; omega), hl]
theorem body10 (a : Int) (l : List UInt8) (hl : digitsV 10 0 l = some a) (hne : l ≠ []) (h8 : l.length ≤ 8) : bodyL (35 :: l) = if allowedB a then encL a else [] := by
  unfold bodyL
  cases l with
  | nil => exact absurd rfl hne
  | cons c t =>
    have hc : 0 ≤ digitV c := digits_no 10 _ _ _ hl c (List.mem_cons_self ..)
    have hx : c ≠ 120 := by rintro rfl; rw [digit120] at hc; omega
    rw [if_neg (by simp [List.isPrefixOf]; exact fun h => hx h.symm), if_pos (by simp [List.isPrefixOf])]
    exact numd_at 10 a _ hl hne h8
theorem body16 (a : Int) (l : List UInt8) (hl : digitsV 16 0 l = some a) (hne : l ≠ []) (h8 : l.length ≤ 8) : bodyL (35 :: 120 :: l) = if allowedB a then encL a else [] := by
  unfold bodyL
  rw [if_pos (by simp [List.isPrefixOf])]
  exact numd_at 16 a _ hl hne h8
theorem ent_at (b : List UInt8) (h59 : ∀ d, d ∈ b → d ≠ 59) : entL (38 :: (b ++ [59])) = if bodyL b = [] then ([], 0) else (bodyL b, (b.length : Int) + 2) := by
  rw [entL_cons, if_pos rfl, upTo_end b 59 h59]

/-- the digit of a number below ten -/
theorem ten_digit (d : Int) (h0 : 0 ≤ d) (h1 : d < 10) : digitV (byteI ((48 + d) % 256)) = d := by
  have : d = 0 ∨ d = 1 ∨ d = 2 ∨ d = 3 ∨ d = 4 ∨ d = 5 ∨ d = 6 ∨ d = 7 ∨ d = 8 ∨ d = 9 := by omega
  rcases this with rfl | rfl | rfl | rfl | rfl | rfl | rfl | rfl | rfl | rfl <;> decide
def hexN (n : Nat) : UInt8 := [48, 49, 50, 51, 52, 53, 54, 55, 56, 57, 97, 66, 99, 68, 101, 70].getD n 0
theorem hex_digit : ∀ n : Nat, n < 16 → digitV (hexN n) = (n : Int) := by decide
theorem hex_cut : ∀ n : Nat, n < 16 → ((⟨#[48, 49, 50, 51, 52, 53, 54, 55, 56, 57, 97, 66, 99, 68, 101, 70]⟩ : ByteArray).extract n (n + 1)).data.toList = [hexN n] := by
  intro n hn
  rw [Lib.extract_data]
  have : n = 0 ∨ n = 1 ∨ n = 2 ∨ n = 3 ∨ n = 4 ∨ n = 5 ∨ n = 6 ∨ n = 7 ∨ n = 8 ∨ n = 9 ∨ n = 10 ∨ n = 11 ∨ n = 12 ∨ n = 13 ∨ n = 14 ∨ n = 15 := by omega
  rcases this with rfl | rfl | rfl | rfl | rfl | rfl | rfl | rfl | rfl | rfl | rfl | rfl | rfl | rfl | rfl | rfl <;> rfl

/-- what a loop of digits keeps -/
structure Keeps (b a : Int) (l : List UInt8) (x : Int) : Prop where
  dig : digitsV b x l = some a
  top : x * b ^ l.length ≤ a
  low : 0 ≤ x
  len : l.length ≤ 8

theorem Keeps.step {b a x : Int} {l : List UInt8} (hb : 1 < b) (hp : a < b ^ 8) (K : Keeps b a l x) (hx : 0 < x ∨ l = []) (ha : 0 ≤ a) (c : UInt8) (hc : digitV c = Int.tmod x b) :
    Keeps b a (c :: l) (Int.tdiv x b) := by
  have hm : Int.tmod x b = x % b := Int.tmod_eq_emod_of_nonneg K.low
  have hd : Int.tdiv x b = x / b := Int.tdiv_eq_ediv_of_nonneg K.low
  have hlt : x % b < b := Int.emod_lt_of_pos _ (by omega)
  have hge : 0 ≤ x % b := Int.emod_nonneg _ (by omega)
  have hdm : x / b * b + x % b = x := by rw [Int.mul_comm]; exact Int.mul_ediv_add_emod x b
  have hd0 : 0 ≤ x / b := Int.ediv_nonneg K.low (by omega)
  rw [hm] at hc
  rw [hd]
  refine ⟨?_, ?_, hd0, ?_⟩
  · rw [digitsV_cons, hc, if_pos ⟨hge, hlt⟩, hdm]; exact K.dig
  · have h1 : x / b * b ^ (c :: l).length = x / b * b * b ^ l.length := by
      rw [List.length_cons, Int.pow_succ, Int.mul_comm (b ^ l.length) b, ← Int.mul_assoc]
    have hpos : 0 ≤ b ^ l.length := Int.pow_nonneg (by omega)
    have h2 : x / b * b * b ^ l.length ≤ x * b ^ l.length := Int.mul_le_mul_of_nonneg_right (by omega) hpos
    rw [h1]
    exact Int.le_trans h2 K.top
  · rcases hx with hx | hx
    · rw [List.length_cons]
      by_cases h8 : l.length = 8
      · exfalso
        have := K.top
        rw [h8] at this
        have hpos : 0 ≤ b ^ 8 := Int.pow_nonneg (by omega)
        have : 1 * b ^ 8 ≤ x * b ^ 8 := Int.mul_le_mul_of_nonneg_right (by omega) hpos
        omega
      · have := K.len; omega
    · rw [hx]; show 1 ≤ 8; decide
theorem cons_app (c : UInt8) (v : ByteArray) (s : ByteArray) (hs : s.data.toList = [c]) : (s ++ v).data.toList = c :: v.data.toList := by
  rw [ByteArray.data_append, Array.toList_append, hs]; rfl

/-- the end: both texts are read -/
theorem fin (a : Int) (ha : 0 ≤ a) (ha1 : a ≤ 99999999) (x4 x6 : ByteArray) (K4 : Keeps 10 a x4.data.toList 0) (K6 : Keeps 16 a x6.data.toList 0) (n4 : x4.data.toList ≠ []) (n6 : x6.data.toList ≠ []) (k : Nat) :
    topiarylaw11_CharsNumbers.l1 (k + 30) a true x4 x6 0 = some true := by
  have s4 : x4.size ≤ 8 := by rw [Lib.size_eq]; exact K4.len
  have s6 : x6.size ≤ 8 := by rw [Lib.size_eq]; exact K6.len
  have f4 : ∀ d, d ∈ (35 : UInt8) :: x4.data.toList → d ≠ 59 := by
    intro d hd
    rcases List.mem_cons.1 hd with rfl | hd
    · decide
    · rintro rfl; have := digits_no 10 _ _ _ K4.dig 59 hd; rw [digit59] at this; omega
  have f6 : ∀ d, d ∈ (35 : UInt8) :: 120 :: x6.data.toList → d ≠ 59 := by
    intro d hd
    rcases List.mem_cons.1 hd with rfl | hd
    · decide
    rcases List.mem_cons.1 hd with rfl | hd
    · decide
    · rintro rfl; have := digits_no 16 _ _ _ K6.dig 59 hd; rw [digit59] at this; omega
  have z4 : ((⟨#[38, 35]⟩ : ByteArray) ++ x4).size = 2 + x4.size := by rw [ByteArray.size_append]; rfl
  have z4' : (((⟨#[38, 35]⟩ : ByteArray) ++ x4) ++ (⟨#[59]⟩ : ByteArray)).size = 2 + x4.size + 1 := by rw [ByteArray.size_append, z4]; rfl
  have z6 : ((⟨#[120, 38, 35, 120]⟩ : ByteArray) ++ x6).size = 4 + x6.size := by rw [ByteArray.size_append]; rfl
  have z6' : (((⟨#[120, 38, 35, 120]⟩ : ByteArray) ++ x6) ++ (⟨#[59]⟩ : ByteArray)).size = 4 + x6.size + 1 := by rw [ByteArray.size_append, z6]; rfl
  have e4 : entP (((⟨#[38, 35]⟩ : ByteArray) ++ x4) ++ (⟨#[59]⟩ : ByteArray)).data.toList 0 = entL (38 :: ((35 :: x4.data.toList) ++ [59])) := by
    rw [ByteArray.data_append, Array.toList_append, ByteArray.data_append, Array.toList_append]
    unfold entP
    rw [if_pos ⟨by omega, by simp; omega⟩]
    rfl
  have e6 : entP (((⟨#[120, 38, 35, 120]⟩ : ByteArray) ++ x6) ++ (⟨#[59]⟩ : ByteArray)).data.toList 1 = entL (38 :: ((35 :: 120 :: x6.data.toList) ++ [59])) := by
    rw [ByteArray.data_append, Array.toList_append, ByteArray.data_append, Array.toList_append]
    unfold entP
    rw [if_pos ⟨by omega, by simp; omega⟩]
    rfl
  rw [ent_at _ f4, body10 a _ K4.dig n4 K4.len] at e4
  rw [ent_at _ f6, body16 a _ K6.dig n6 K6.len] at e6
  unfold topiarylaw11_CharsNumbers.l1
  rw [if_neg (show ¬ (0 : Int) > 0 by omega), if_neg (by rw [Lib.toList_data]; exact n6), if_pos (by omega), if_pos (by rw [z4]; omega), show k + 29 = (k + 9) + 20 from rfl, centity_f _ _ (by rw [z4']; omega), Option.bind_some, if_pos (by omega), if_pos (by rw [z6]; omega), centity_f _ _ (by rw [z6']; omega), Option.bind_some, show k + 9 + 20 = (k + 28) + 1 from rfl, callowed_f, Option.bind_some]
  by_cases hA : allowedB a = true
  · have hne : ¬ encL a = [] := fun e => by have := (enc_nil a).1 e; rw [allowed_point a hA] at this; cases this
    rw [if_pos hA, if_neg hne] at e4 e6
    rw [e4, e6]
    rw [if_pos hA, if_pos rfl, show k + 28 + 1 = (k + 24) + 5 from rfl, cencode_f, Option.bind_some]
    rw [if_pos rfl, if_pos rfl]
    simp only [List.length_cons]
    rw [cwr _ (by omega) (by omega), cwr _ (by omega) (by omega), clen, clen, if_pos (by omega)]
    congr 1
    rw [beq_iff_eq]; omega
  · rw [if_neg hA, if_pos rfl] at e4 e6
    rw [e4, e6]
    rw [if_neg hA, if_pos rfl, mk_toList, if_pos rfl, if_pos rfl]
    show some (wrap64 (0 + 0) == 0) = some true
    rw [cwr _ (by omega) (by omega)]; rfl

theorem hex_l1 (a : Int) (ha : 0 ≤ a) (ha1 : a ≤ 99999999) (x4 : ByteArray) (K4 : Keeps 10 a x4.data.toList 0) (n4 : x4.data.toList ≠ []) : ∀ (m : Nat) (k : Nat) (x6 : ByteArray) (x7 : Int), Keeps 16 a x6.data.toList x7 → x7 < 16 ^ m → (x7 = 0 → x6.data.toList = [] → 0 < m) →
    topiarylaw11_CharsNumbers.l1 (k + 30 + m) a true x4 x6 x7 = some true
  | 0, k, x6, x7, K, hx, hn => by
    have : x7 = 0 := by have := K.low; simp at hx; omega
    subst this
    exact fin a ha ha1 x4 x6 K4 K n4 (fun h => by have := hn rfl h; omega) k
  | m + 1, k, x6, x7, K, hx, hn => by
    by_cases hgo : 0 < x7 ∨ x6.data.toList = []
    · have h0 := K.low
      have hm : Int.tmod x7 16 = x7 % 16 := Int.tmod_eq_emod_of_nonneg h0
      obtain ⟨r, hr⟩ : ∃ r : Nat, x7 % 16 = (r : Int) := ⟨(x7 % 16).toNat, by omega⟩
      have hr16 : r < 16 := by omega
      have hd : Int.tdiv x7 16 = x7 / 16 := Int.tdiv_eq_ediv_of_nonneg h0
      have hx7 : x7 ≤ 99999999 := by
        have h1 := K.top
        have h2 : (1 : Int) ≤ 16 ^ x6.data.toList.length := Int.pow_pos (by omega)
        have : x7 * 1 ≤ x7 * 16 ^ x6.data.toList.length := Int.mul_le_mul_of_nonneg_left h2 h0
        omega
      have hcut := hex_cut r hr16
      have hK := K.step (by omega) (by omega) hgo ha (hexN r) (by rw [hm, hr]; exact hex_digit r hr16)
      have hsz : x6.size ≤ 8 := by rw [Lib.size_eq]; exact K.len
      have hlen : ((⟨#[48, 49, 50, 51, 52, 53, 54, 55, 56, 57, 97, 66, 99, 68, 101, 70]⟩ : ByteArray).extract r (r + 1)).size = 1 := by rw [Lib.size_eq, hcut]; rfl
      have hrec := hex_l1 a ha ha1 x4 K4 n4 m k (((⟨#[48, 49, 50, 51, 52, 53, 54, 55, 56, 57, 97, 66, 99, 68, 101, 70]⟩ : ByteArray).extract r (r + 1)) ++ x6) (x7 / 16)
        (by rw [cons_app _ _ _ hcut, ← hd]; exact hK) (by rw [Int.pow_succ] at hx; omega) (fun _ h => by rw [cons_app _ _ _ hcut] at h; cases h)
      have hstep : topiarylaw11_CharsNumbers.l1 (k + 30 + m) a true x4 (((⟨#[48, 49, 50, 51, 52, 53, 54, 55, 56, 57, 97, 66, 99, 68, 101, 70]⟩ : ByteArray).extract ((Int.tmod x7 16) : Int).toNat ((wrap64 ((Int.tmod x7 16) + 1)) : Int).toNat) ++ x6) (wrap64 (Int.tdiv x7 16)) = some true := by
        rw [hm, hd, hr, cwr _ (by omega) (by omega), cwr _ (by omega) (by omega), show ((r : Int)).toNat = r from by omega, show ((r : Int) + 1).toNat = r + 1 from by omega]
        exact hrec
      rw [show k + 30 + (m + 1) = (k + 30 + m) + 1 from rfl]
      unfold topiarylaw11_CharsNumbers.l1
      have c1 : 0 ≤ Int.tmod x7 16 := by omega
      have c2 : Int.tmod x7 16 ≤ wrap64 (Int.tmod x7 16 + 1) := by rw [cwr _ (by omega) (by omega)]; omega
      have c3 : wrap64 (Int.tmod x7 16 + 1) ≤ 16 := by rw [cwr _ (by omega) (by omega)]; omega
      have c4 : ((⟨#[48, 49, 50, 51, 52, 53, 54, 55, 56, 57, 97, 66, 99, 68, 101, 70]⟩ : ByteArray).extract ((Int.tmod x7 16) : Int).toNat ((wrap64 ((Int.tmod x7 16) + 1)) : Int).toNat).size + x6.size ≤ 9223372036854775807 := by
        rw [hm, hr, cwr _ (by omega) (by omega), show ((r : Int)).toNat = r from by omega, show ((r : Int) + 1).toNat = r + 1 from by omega, hlen]; omega
      by_cases hp : x7 > 0
      · rw [if_pos hp, if_pos c1, if_pos c2, if_pos c3, if_pos c4]; exact hstep
      · rw [if_neg hp, if_pos (by rw [Lib.toList_data]; exact hgo.resolve_left hp), if_pos c1, if_pos c2, if_pos c3, if_pos c4]; exact hstep
    · have : x7 = 0 := by have := K.low; omega
      subst this
      rw [show k + 30 + (m + 1) = (k + m + 1) + 30 from by omega]
      exact fin a ha ha1 x4 x6 K4 K n4 (fun h => hgo (.inr h)) _

theorem dec_l0 (a : Int) (ha : 0 ≤ a) (ha1 : a ≤ 99999999) : ∀ (m : Nat) (k : Nat) (x4 : ByteArray) (x5 : Int), Keeps 10 a x4.data.toList x5 → x5 < 10 ^ m → (x5 = 0 → x4.data.toList = [] → 0 < m) →
    topiarylaw11_CharsNumbers.l0 (k + 60 + m) a true x4 x5 = some true := by
  have hend : ∀ (k : Nat) (x4 : ByteArray), Keeps 10 a x4.data.toList 0 → x4.data.toList ≠ [] → topiarylaw11_CharsNumbers.l0 (k + 60) a true x4 0 = some true := by
    intro k x4 K n4
    rw [show k + 60 = (k + 59) + 1 from rfl]
    unfold topiarylaw11_CharsNumbers.l0
    rw [if_neg (by omega), if_neg (by rw [Lib.toList_data]; exact n4), show k + 59 = (k + 20) + 30 + 9 from rfl]
    refine hex_l1 a ha ha1 x4 K n4 9 (k + 20) ⟨#[]⟩ a ⟨rfl, by simp, ha, by decide⟩ (by omega) (fun _ _ => by omega)
  intro m
  induction m with
  | zero =>
    intro k x5' x5 K hx hn
    have : x5 = 0 := by have := K.low; simp at hx; omega
    subst this
    exact hend k _ K (fun h => by have := hn rfl h; omega)
  | succ m ih =>
    intro k x4 x5 K hx hn
    by_cases hgo : 0 < x5 ∨ x4.data.toList = []
    · have h0 := K.low
      have hm : Int.tmod x5 10 = x5 % 10 := Int.tmod_eq_emod_of_nonneg h0
      have hd : Int.tdiv x5 10 = x5 / 10 := Int.tdiv_eq_ediv_of_nonneg h0
      have hx5 : x5 ≤ 99999999 := by
        have h1 := K.top
        have h2 : (1 : Int) ≤ 10 ^ x4.data.toList.length := Int.pow_pos (by omega)
        have : x5 * 1 ≤ x5 * 10 ^ x4.data.toList.length := Int.mul_le_mul_of_nonneg_left h2 h0
        omega
      have hsz : x4.size ≤ 8 := by rw [Lib.size_eq]; exact K.len
      have hw : wrap64 (48 + Int.tmod x5 10) = 48 + x5 % 10 := by rw [hm]; exact cwr _ (by omega) (by omega)
      have hK := K.step (by omega) (by omega) hgo ha (byteI ((48 + x5 % 10) % 256)) (by rw [hm]; exact ten_digit _ (by omega) (by omega))
      have hstr : (strOfNums [wrap64 (48 + Int.tmod x5 10) % 256]).data.toList = [byteI ((48 + x5 % 10) % 256)] := by rw [cstr_nums, hw]; rfl
      have hrec := ih k (strOfNums [wrap64 (48 + Int.tmod x5 10) % 256] ++ x4) (x5 / 10)
        (by rw [cons_app _ _ _ hstr, ← hd]; exact hK) (by rw [Int.pow_succ] at hx; omega) (fun _ h => by rw [cons_app _ _ _ hstr] at h; cases h)
      have hlen : (strOfNums [wrap64 (48 + Int.tmod x5 10) % 256]).size = 1 := by rw [Lib.size_eq, hstr]; rfl
      have hdw : wrap64 (Int.tdiv x5 10) = x5 / 10 := by rw [hd]; exact cwr _ (by omega) (by omega)
      rw [show k + 60 + (m + 1) = (k + 60 + m) + 1 from rfl]
      unfold topiarylaw11_CharsNumbers.l0
      by_cases hp : x5 > 0
      · rw [if_pos hp, Option.bind_some, if_pos (by rw [hlen]; omega), hdw]; exact hrec
      · rw [if_neg hp, if_pos (by rw [Lib.toList_data]; exact hgo.resolve_left hp), Option.bind_some, if_pos (by rw [hlen]; omega), hdw]; exact hrec
    · have : x5 = 0 := by have := K.low; omega
      subst this
      rw [show k + 60 + (m + 1) = (k + m + 1) + 60 from by omega]
      exact hend _ x4 K (fun h => hgo (.inr h))

theorem CharsNumbers : topiarylaw11_CharsNumbers.Pure := by
  intro a hw
  refine ⟨200, ?_⟩
  unfold topiarylaw11_CharsNumbers.f
  rw [show (200 : Nat) = 60 + 140 from rfl, awake_f, Option.bind_some, show 60 + 140 = 199 + 1 from rfl]
  have hal : ∀ c : Int, c < 0 ∨ 1114111 < c → allowedB c = false := by
    intro c hc
    cases h : allowedB c with
    | false => rfl
    | true => have := point_range (allowed_point c h); omega
  by_cases h0 : a < 0
  · rw [if_pos h0, topiarylaw11_CharsNumbers.j0, if_pos rfl, if_pos rfl, show (199 : Nat) = 198 + 1 from rfl, callowed_f, Option.bind_some, if_pos h0, hal a (.inl h0)]; rfl
  · rw [if_neg h0]
    by_cases h1 : a > 99999999
    · rw [decide_eq_true h1, topiarylaw11_CharsNumbers.j0, if_pos rfl, if_pos rfl, show (199 : Nat) = 198 + 1 from rfl, callowed_f, Option.bind_some, if_neg h0, hal a (.inr (by omega)), decide_eq_true (show a > 1114111 by omega)]; rfl
    · rw [decide_eq_false h1, topiarylaw11_CharsNumbers.j0, if_neg (by decide)]
      exact dec_l0 a (by omega) (by omega) 9 130 ⟨#[]⟩ a ⟨rfl, by simp, by omega, by decide⟩ (by omega) (fun _ _ => by omega)

end Go.Proofs.Ytekkaoenabjeiaa.Pure
