/- Plain laws: what the printed mirrors of the reference's Rune, Valid, NameEnd, Skip, Space, Escape and Entity tell, and chars.Valid, Space, Name. -/
import Derived.Test.YtekkaoenabjeiaaQ14
import Derived.Test.YtekkaoenabjeiaaQ16
import Derived.Test.YtekkaoenabjeiaaQ19
import Derived.Test.YtekkaoenabjeiaaQ20
import Derived.Test.YtekkaoenabjeiaaQ9
import Derived.Test.YtekkaoenabjeiaaQ15
import Derived.Test.YtekkaoenabjeiaaQ21
import Derived.Test.YtekkaoenabjeiaaP11a
import Derived.Test.YtekkaoenabjeiaaP11b
import Derived.Test.YtekkaoenabjeiaaP11c
import Derived.Test.YtekkaoenabjeiaaRefE
set_option linter.unusedVariables false
set_option linter.unusedSimpArgs false
namespace Go.Proofs.Ytekkaoenabjeiaa.P11
open Go Go.RowKit Go.Proofs.Ytekkaoenabjeiaa Go.Proofs.Ytekkaoenabjeiaa.Q Go.Proofs.YtekkaoenabjeiaaW.PrintWords Go.Proofs.Ytekkaoenabjeiaa.X Go.Proofs.Ytekkaoenabjeiaa.RefE

/-! ### Rune -/
def lessN (n : Nat) : Int := if n = 2 then 192 else if n = 3 then 224 else if n = 4 then 240 else 0
def codeGo : Int → List UInt8 → Int
  | c, [] => c
  | c, b :: t => codeGo (c * 64 + (b.toNat : Int) - 128) t
def refCode (n : Nat) : List UInt8 → Int
  | [] => 0
  | b :: t => codeGo ((b.toNat : Int) - lessN n) (t.take (n - 1))

/-- the number that bytes would say, for those of a character -/
theorem refCode_enc (c : Int) (hp : pointB c = true) (t : List UInt8) : refCode (sizeN c).toNat (encL c ++ t) = c := by
  have hb := point_range hp
  unfold encL sizeN
  rw [if_pos hp]
  by_cases h1 : c < 128
  · rw [if_pos h1, if_pos h1]
    have e0 := byteI_nat c hb.1 (by omega)
    show codeGo ((byteI c).toNat - lessN 1) [] = c
    rw [codeGo, show lessN 1 = 0 from rfl]; omega
  rw [if_neg h1, if_neg h1]
  by_cases h2 : c < 2048
  · rw [if_pos h2, if_pos h2]
    have e0 := byteI_nat (192 + c / 64) (by omega) (by omega)
    have e1 := byteI_nat (128 + c % 64) (by omega) (by omega)
    show codeGo ((byteI (192 + c / 64)).toNat - lessN 2) [byteI (128 + c % 64)] = c
    rw [codeGo, codeGo, show lessN 2 = 192 from rfl]; omega
  rw [if_neg h2, if_neg h2]
  by_cases h3 : c < 65536
  · rw [if_pos h3, if_pos h3]
    have e0 := byteI_nat (224 + c / 4096) (by omega) (by omega)
    have e1 := byteI_nat (128 + c / 64 % 64) (by omega) (by omega)
    have e2 := byteI_nat (128 + c % 64) (by omega) (by omega)
    show codeGo ((byteI (224 + c / 4096)).toNat - lessN 3) [byteI (128 + c / 64 % 64), byteI (128 + c % 64)] = c
    rw [codeGo, codeGo, codeGo, show lessN 3 = 224 from rfl]; omega
  rw [if_neg h3, if_neg h3]
  have e0 := byteI_nat (240 + c / 262144) (by omega) (by omega)
  have e1 := byteI_nat (128 + c / 4096 % 64) (by omega) (by omega)
  have e2 := byteI_nat (128 + c / 64 % 64) (by omega) (by omega)
  have e3 := byteI_nat (128 + c % 64) (by omega) (by omega)
  show codeGo ((byteI (240 + c / 262144)).toNat - lessN 4) [byteI (128 + c / 4096 % 64), byteI (128 + c / 64 % 64), byteI (128 + c % 64)] = c
  rw [codeGo, codeGo, codeGo, codeGo, show lessN 4 = 240 from rfl]; omega

/-- one try of the reference -/
def tryN (n : Nat) (l : List UInt8) : Bool := decide (encL (refCode n l) ≠ []) && (encL (refCode n l) == l.take n)
theorem try_yes (n : Nat) (l : List UInt8) (hn : n ≤ l.length) (h : tryN n l = true) : decL l = (refCode n l, (n : Int)) := by
  unfold tryN at h
  simp only [Bool.and_eq_true, decide_eq_true_eq, beq_iff_eq] at h
  obtain ⟨h1, h2⟩ := h
  have hp : pointB (refCode n l) = true := by
    by_cases hp : pointB (refCode n l) = true
    · exact hp
    · exact absurd ((enc_nil _).2 (by simpa using hp)) h1
  have hl := enc_len _ hp
  have hd := dec_enc _ hp (l.drop n)
  rw [h2, List.take_append_drop] at hd
  rw [hd]
  congr 1
  rw [← hl, h2, List.length_take]
  omega
theorem try_at (l : List UInt8) (h : ¬ (decL l).2 = 0) : tryN (decL l).2.toNat l = true ∧ 1 ≤ (decL l).2.toNat ∧ (decL l).2.toNat ≤ 4 ∧ (decL l).2.toNat ≤ l.length := by
  obtain ⟨hp, hs, t, ht⟩ := enc_dec l h
  have hr := dec_range l
  have hl := enc_len _ hp
  refine ⟨?_, by omega, by omega, by omega⟩
  have hc : refCode (decL l).2.toNat l = (decL l).1 := by
    have := refCode_enc _ hp t
    rw [← ht, ← hs] at this
    exact this
  unfold tryN
  rw [hc]
  simp only [Bool.and_eq_true, decide_eq_true_eq, beq_iff_eq]
  refine ⟨fun e => ?_, ?_⟩
  · rw [e] at hl
    have := sizeN_range (decL l).1
    simp at hl; omega
  · have : l.take (decL l).2.toNat = (encL (decL l).1 ++ t).take (decL l).2.toNat := by rw [← ht]
    rw [this, hs, ← hl, Int.toNat_natCast, List.take_left]

/-- the tries from one on -/
def triesFrom (l : List UInt8) : Nat → Nat → Int × Int
  | 0, _ => (-1, 0)
  | d + 1, n => if n ≤ l.length then (if tryN n l then (refCode n l, (n : Int)) else triesFrom l d (n + 1)) else (-1, 0)
theorem tries_eq (l : List UInt8) : triesFrom l 4 1 = decL l := by
  have hno : ∀ d n, n + d = 5 → (∀ m, 1 ≤ m → m < n → tryN m l = true → ¬ m ≤ l.length) → triesFrom l d n = decL l := by
    intro d
    induction d with
    | zero =>
      intro n hn h
      rw [triesFrom]
      by_cases h0 : (decL l).2 = 0
      · exact (dec_none l h0).symm
      · obtain ⟨a, b, c, e⟩ := try_at l h0
        exact absurd e (h _ b (by omega) a)
    | succ d ih =>
      intro n hn h
      rw [triesFrom]
      by_cases hl : n ≤ l.length
      · rw [if_pos hl]
        by_cases ht : tryN n l = true
        · rw [if_pos ht]
          exact (try_yes n l hl ht).symm
        · rw [if_neg ht]
          refine ih (n + 1) (by omega) fun m h1 h2 h3 => ?_
          by_cases hm : m = n
          · subst hm; exact absurd h3 ht
          · exact h m h1 (by omega) h3
      · rw [if_neg hl]
        by_cases h0 : (decL l).2 = 0
        · exact (dec_none l h0).symm
        · obtain ⟨a, b, c, e⟩ := try_at l h0
          by_cases hm : (decL l).2.toNat < n
          · exact absurd e (h _ b hm a)
          · omega
  exact hno 4 1 rfl fun m h1 h2 => by omega

theorem code_bound : ∀ (t : List UInt8) (c : Int), t.length ≤ 3 → -1000 ≤ c → c ≤ 1000 → -300000000 ≤ codeGo c t ∧ codeGo c t ≤ 300000000 := by
  intro t c h h0 h1
  match t, h with
  | [], _ => rw [codeGo]; omega
  | [x], _ => have := x.toNat_lt; rw [codeGo, codeGo]; omega
  | [x, y], _ => have := x.toNat_lt; have := y.toNat_lt; rw [codeGo, codeGo, codeGo]; omega
  | [x, y, z], _ => have := x.toNat_lt; have := y.toNat_lt; have := z.toNat_lt; rw [codeGo, codeGo, codeGo, codeGo]; omega

/-- behind the bytes of one try -/
def endOf (k : Nat) (s : ByteArray) (a n : Nat) (code : Int) : Option (Int × Int) :=
  if encL code = [] then topiaryref11_Rune.l0 k s a ((n : Int) + 1) else if encL code = (s.data.toList.drop a).take n then some (code, (n : Int)) else topiaryref11_Rune.l0 k s a ((n : Int) + 1)

theorem rune_l1 (s : ByteArray) (a n : Nat) (hs : s.size ≤ 4294967296) (hn : n ≤ 4) (ha : a + n ≤ s.size) (d : Nat) : ∀ (i k : Nat) (c : Int), i + d = n → 1 ≤ i → i ≤ 4 → -300000000 ≤ c → c ≤ 300000000 →
    (∀ j, j ≤ d → -300000000 ≤ codeGo c ((s.data.toList.drop (a + i)).take j) ∧ codeGo c ((s.data.toList.drop (a + i)).take j) ≤ 300000000) →
    topiaryref11_Rune.l1 (k + d + 1) s a n c i = endOf k s a n (codeGo c ((s.data.toList.drop (a + i)).take d)) := by
  induction d with
  | zero =>
    intro i k c hi h1 h4 hc0 hc1 hall
    rw [topiaryref11_Rune.l1, if_neg (by omega), encode_f, Option.bind_some, List.take_zero, codeGo, Lib.toList_data]
    unfold endOf
    have hdat : (⟨(encL c).toArray⟩ : ByteArray).data.toList = encL c := rfl
    rw [hdat, wr ((n : Int) + 1) (by omega) (by omega)]
    by_cases he : encL c = []
    · rw [if_pos he, if_pos he]
    rw [if_neg he, if_neg he, if_pos (by omega), wr ((a : Int) + (n : Int)) (by omega) (by omega), if_pos (by omega), if_pos (by omega), Lib.extract_toList, Int.toNat_natCast, show ((a : Int) + (n : Int)).toNat - a = n from by omega]
  | succ d ih =>
    intro i k c hi h1 h4 hc0 hc1 hall
    have hlt : a + i < s.size := by omega
    rw [show k + (d + 1) + 1 = (k + d + 1) + 1 from by omega, topiaryref11_Rune.l1, if_pos (by omega)]
    have hw : wrap64 ((a : Int) + (i : Int)) = ((a + i : Nat) : Int) := by rw [wr _ (by omega) (by omega)]; omega
    rw [hw, if_pos (by omega), if_pos (by omega), if_neg (by omega), bt_get s _ hlt, drop_cons s _ hlt, List.take_succ_cons, codeGo]
    obtain ⟨x, hx⟩ : ∃ x, s[a + i] = x := ⟨_, rfl⟩
    rw [hx]
    have hxl := x.toNat_lt
    have hall' : ∀ j, j ≤ d → -300000000 ≤ codeGo (c * 64 + (x.toNat : Int) - 128) ((s.data.toList.drop (a + i + 1)).take j) ∧ codeGo (c * 64 + (x.toNat : Int) - 128) ((s.data.toList.drop (a + i + 1)).take j) ≤ 300000000 := by
      intro j hj
      have := hall (j + 1) (by omega)
      rw [drop_cons s _ hlt, List.take_succ_cons, codeGo, hx] at this
      exact this
    have h0 := hall' 0 (by omega)
    rw [List.take_zero, codeGo] at h0
    rw [wr (c * 64) (by omega) (by omega), wr (x.toNat : Int) (by omega) (by omega), wr (c * 64 + (x.toNat : Int)) (by omega) (by omega), wr (c * 64 + (x.toNat : Int) - 128) (by omega) (by omega), wr ((i : Int) + 1) (by omega) (by omega)]
    have := ih (i + 1) k (c * 64 + (x.toNat : Int) - 128) (by omega) (by omega) (by omega) h0.1 h0.2 hall'
    rw [show ((i + 1 : Nat) : Int) = (i : Int) + 1 from by omega, show a + (i + 1) = a + i + 1 from by omega] at this
    exact this

theorem rune_try (s : ByteArray) (a n : Nat) (hs : s.size ≤ 4294967296) (h1 : 1 ≤ n) (hn : n ≤ 4) (ha : a + n ≤ s.size) (k : Nat) :
    topiaryref11_Rune.l1 (k + n + 2) s a n 0 0 = endOf k s a n (refCode n (s.data.toList.drop a)) := by
  have hlt : a < s.size := by omega
  rw [topiaryref11_Rune.l1, if_pos (by omega)]
  have hw : wrap64 ((a : Int) + 0) = (a : Int) := by rw [wr _ (by omega) (by omega)]; omega
  rw [hw, if_pos (by omega), if_pos (by omega), if_pos rfl, bt_get s _ hlt, drop_cons s _ hlt]
  obtain ⟨x, hx⟩ : ∃ x, s[a] = x := ⟨_, rfl⟩
  rw [hx]
  have hxl := x.toNat_lt
  rw [wr (x.toNat : Int) (by omega) (by omega)]
  have hless : 0 ≤ lessN n ∧ lessN n ≤ 240 := by unfold lessN; repeat' split <;> omega
  have hj : ∀ y : Int, (n ≠ 3 → n ≠ 4 → y = lessN n) → topiaryref11_Rune.j4 (k + n + 1) s a n 0 (x.toNat : Int) y = topiaryref11_Rune.l1 (k + n) s a n ((x.toNat : Int) - lessN n) 1 := by
    intro y hy
    rw [topiaryref11_Rune.j4]
    by_cases h3 : n = 3
    · subst h3
      rw [if_pos (by omega), if_neg (by omega), wr _ (by omega) (by omega), wr _ (by omega) (by omega)]
      rfl
    · rw [if_neg (by omega)]
      by_cases h4 : n = 4
      · subst h4
        rw [if_pos (by omega), wr _ (by omega) (by omega), wr _ (by omega) (by omega)]
        rfl
      · rw [if_neg (by omega), hy h3 h4, wr _ (by omega) (by omega), wr _ (by omega) (by omega)]
        rfl
  have hfin : topiaryref11_Rune.l1 (k + n) s a n ((x.toNat : Int) - lessN n) 1 = endOf k s a n (refCode n (x :: s.data.toList.drop (a + 1))) := by
    have hb : ∀ j, j ≤ n - 1 → -300000000 ≤ codeGo ((x.toNat : Int) - lessN n) ((s.data.toList.drop (a + 1)).take j) ∧ codeGo ((x.toNat : Int) - lessN n) ((s.data.toList.drop (a + 1)).take j) ≤ 300000000 :=
      fun j hj => code_bound _ _ (by rw [List.length_take]; omega) (by omega) (by omega)
    have := rune_l1 s a n hs hn ha (n - 1) 1 k ((x.toNat : Int) - lessN n) (by omega) (by omega) (by omega) (by omega) (by omega) hb
    rw [show k + (n - 1) + 1 = k + n from by omega] at this
    exact this
  by_cases h2 : n = 2
  · subst h2
    rw [if_pos (by rfl), hj 192 (fun _ _ => rfl), hfin]
  · rw [if_neg (by omega), hj 0 (fun h3 h4 => by unfold lessN; rw [if_neg h2, if_neg h3, if_neg h4]), hfin]

theorem rune_l0 (s : ByteArray) (a : Nat) (hs : s.size ≤ 4294967296) (ha : a < s.size) (d : Nat) : ∀ (n k : Nat), n + d = 5 → 1 ≤ n → 10 * d + 2 ≤ k →
    topiaryref11_Rune.l0 k s a n = some (triesFrom (s.data.toList.drop a) d n) := by
  have hlen : (s.data.toList.drop a).length = s.size - a := by rw [List.length_drop, len_data]
  induction d with
  | zero =>
    intro n k hn h1 hk
    obtain ⟨k, rfl⟩ : ∃ m, k = m + 2 := ⟨k - 2, by omega⟩
    rw [topiaryref11_Rune.l0, if_neg (by omega), topiaryref11_Rune.j2, if_neg (by decide), triesFrom]
  | succ d ih =>
    intro n k hn h1 hk
    obtain ⟨k, rfl⟩ : ∃ m, k = m + n + 4 := ⟨k - n - 4, by omega⟩
    rw [topiaryref11_Rune.l0, if_pos (by omega), wr ((s.size : Int) - (a : Int)) (by omega) (by omega), triesFrom]
    by_cases hl : n ≤ (s.data.toList.drop a).length
    · rw [if_pos hl, show decide ((n : Int) ≤ (s.size : Int) - (a : Int)) = true from by simp; omega, topiaryref11_Rune.j2, if_pos rfl, rune_try s a n hs h1 (by omega) (by omega)]
      unfold endOf
      have hr := ih (n + 1) k (by omega) (by omega) (by omega)
      rw [show ((n + 1 : Nat) : Int) = (n : Int) + 1 from by omega] at hr
      by_cases he : encL (refCode n (s.data.toList.drop a)) = []
      · have ht : tryN n (s.data.toList.drop a) = false := by unfold tryN; simp [he]
        rw [if_pos he, ht, hr]; rfl
      · rw [if_neg he]
        by_cases he2 : encL (refCode n (s.data.toList.drop a)) = (s.data.toList.drop a).take n
        · have ht : tryN n (s.data.toList.drop a) = true := by unfold tryN; simp [he, ← he2]
          rw [if_pos he2, ht]; rfl
        · have ht : tryN n (s.data.toList.drop a) = false := by unfold tryN; simp [he2]
          rw [if_neg he2, ht, hr]; rfl
    · rw [if_neg hl, show decide ((n : Int) ≤ (s.size : Int) - (a : Int)) = false from by simp; omega, topiaryref11_Rune.j2, if_neg (by decide)]

theorem ref_rune_f (s : ByteArray) (a : Int) (hs : s.size ≤ 4294967296) (k : Nat) : topiaryref11_Rune.f (k + 43) s a = some (runeP s.data.toList a) := by
  have hl := len_data s
  unfold topiaryref11_Rune.f runeP
  by_cases h0 : a < 0
  · rw [if_pos h0, topiaryref11_Rune.j0, if_pos rfl, if_neg (by omega)]
  rw [if_neg h0]
  by_cases h1 : a ≥ (s.size : Int)
  · rw [show decide (a ≥ (s.size : Int)) = true from by simpa using h1, topiaryref11_Rune.j0, if_pos rfl, if_neg (by omega)]
  · obtain ⟨n, rfl⟩ := Int.eq_ofNat_of_zero_le (by omega : 0 ≤ a)
    rw [show decide ((n : Int) ≥ (s.size : Int)) = false from by simpa using h1, topiaryref11_Rune.j0, if_neg (by decide), if_pos (by omega), Int.toNat_natCast]
    have := rune_l0 s n hs (by omega) 4 1 (k + 42) rfl (by omega) (by omega)
    rw [tries_eq] at this
    exact this

/-! ### Valid -/
theorem valid_at (s : ByteArray) (n : Nat) (hn : n < s.size) : validL (s.data.toList.drop n) = (decide (0 < (runeP s.data.toList n).2) && allowedB (runeP s.data.toList n).1 && validL (s.data.toList.drop (n + (runeP s.data.toList n).2.toNat))) := by
  have hp : runeP s.data.toList (n : Int) = decL (s.data.toList.drop n) := by
    unfold runeP
    rw [if_pos ⟨by omega, by rw [len_data]; omega⟩, Int.toNat_natCast]
  rw [hp, drop_cons s n hn, valid_cons, ← drop_cons s n hn, List.drop_drop]

theorem ref_valid_l0 (s : ByteArray) (hs : s.size ≤ 4294967296) (d : Nat) : ∀ (n k : Nat), s.size - n = d → n ≤ s.size → d + 50 ≤ k → topiaryref11_Valid.l0 k s n = some (validL (s.data.toList.drop n)) := by
  induction d using Nat.strongRecOn with
  | ind d ih =>
    intro n k hd hn hk
    obtain ⟨k, rfl⟩ : ∃ m, k = m + 1 := ⟨k - 1, by omega⟩
    rw [topiaryref11_Valid.l0]
    by_cases hlt : n < s.size
    · rw [if_pos (by omega), show k = (k - 43) + 43 from by omega, ref_rune_f s n hs, Option.bind_some, allowed_f, Option.bind_some, valid_at s n hlt]
      have hp : runeP s.data.toList (n : Int) = decL (s.data.toList.drop n) := by
        unfold runeP
        rw [if_pos ⟨by omega, by rw [len_data]; omega⟩, Int.toNat_natCast]
      have hr := dec_range (s.data.toList.drop n)
      rw [← hp, List.length_drop, len_data] at hr
      by_cases h0 : (runeP s.data.toList (n : Int)).2 = 0
      · rw [if_pos h0, h0]; rfl
      · rw [if_neg h0, show decide (0 < (runeP s.data.toList (n : Int)).2) = true from by simp; omega, Bool.true_and]
        by_cases ha : allowedB (runeP s.data.toList (n : Int)).1 = true
        · rw [if_pos ha, ha, Bool.true_and, wr _ (by omega) (by omega), show (n : Int) + (runeP s.data.toList (n : Int)).2 = ((n + (runeP s.data.toList (n : Int)).2.toNat : Nat) : Int) from by omega]
          exact ih _ (by omega) _ _ rfl (by omega) (by omega)
        · rw [if_neg ha, show allowedB (runeP s.data.toList (n : Int)).1 = false from by simpa using ha]; rfl
    · rw [if_neg (by omega), List.drop_of_length_le (by rw [len_data]; omega)]; rfl
theorem ref_valid_f (s : ByteArray) (hs : s.size ≤ 4294967296) (k : Nat) : topiaryref11_Valid.f (s.size + 50 + k) s = some (validL s.data.toList) :=
  ref_valid_l0 s hs s.size 0 _ (by omega) (by omega) (by omega)

theorem valid_l0 (d : Nat) : ∀ (s : ByteArray) (k : Nat), s.size = d → s.size ≤ 4294967296 → d + 2 ≤ k → chars_Valid.l0 k s = some (validL s.data.toList) := by
  induction d using Nat.strongRecOn with
  | ind d ih =>
    intro s k hd hs hk
    obtain ⟨k, rfl⟩ : ∃ m, k = m + 2 := ⟨k - 2, by omega⟩
    rw [chars_Valid.l0]
    by_cases hlt : 0 < s.size
    · rw [if_pos (by omega), chars_Rune.f, if_pos hs, Option.bind_some]
      have hv := valid_at s 0 hlt
      have hp : runeP s.data.toList ((0 : Nat) : Int) = decL (s.data.toList.drop 0) := by
        unfold runeP
        rw [if_pos ⟨by omega, by rw [len_data]; omega⟩, Int.toNat_natCast]
      have hr := dec_range (s.data.toList.drop 0)
      rw [← hp, List.length_drop, len_data] at hr
      rw [List.drop_zero, Nat.zero_add] at hv
      have e0 : ((0 : Nat) : Int) = 0 := rfl
      rw [e0] at hv hr
      rw [hv]
      by_cases h0 : (runeP s.data.toList 0).2 = 0
      · rw [if_pos h0, h0]; rfl
      · rw [if_neg h0, callowed_f, Option.bind_some, show decide (0 < (runeP s.data.toList 0).2) = true from by simp; omega, Bool.true_and]
        by_cases ha : allowedB (runeP s.data.toList 0).1 = true
        · rw [if_pos ha, ha, Bool.true_and, if_pos (by omega), if_pos (by omega)]
          have hdat : (s.extract (runeP s.data.toList 0).2.toNat s.size).data.toList = s.data.toList.drop (runeP s.data.toList 0).2.toNat := by
            rw [Lib.extract_data, List.take_of_length_le (by rw [List.length_drop, len_data]; exact Nat.le_refl _)]
          have hsz : (s.extract (runeP s.data.toList 0).2.toNat s.size).size = s.size - (runeP s.data.toList 0).2.toNat := by rw [Lib.size_eq, hdat, List.length_drop, len_data]
          rw [← hdat]
          exact ih (s.size - (runeP s.data.toList 0).2.toNat) (by omega) _ _ hsz (by omega) (by omega)
        · rw [if_neg ha, show allowedB (runeP s.data.toList 0).1 = false from by simpa using ha]; rfl
    · have : s.data.toList = [] := List.eq_nil_of_length_eq_zero (by rw [len_data]; omega)
      rw [if_neg (by omega), this]; rfl
theorem valid_f (s : ByteArray) (hs : s.size ≤ 4294967296) (k : Nat) : chars_Valid.f (s.size + 2 + k) s = some (validL s.data.toList) := valid_l0 s.size s _ rfl hs (by omega)

/-! ### names and spaces -/
theorem nat_of_bt (s : ByteArray) (n : Nat) (h : n < s.size) (c : UInt8) (hc : s[n] = c) : bt s (n : Int) = (c.toNat : Int) := by rw [bt_get s n h, hc]
theorem ref_space_f (c : UInt8) : topiaryref11_Space.f (c.toNat : Int) = some (spaceB c) := by
  unfold topiaryref11_Space.f spaceB
  repeat' split
  all_goals
    congr 1
    rw [Bool.eq_iff_iff]
    simp
    omega
theorem space_f (c : UInt8) : chars_Space.f (c.toNat : Int) = some (spaceB c) := by
  unfold chars_Space.f
  rw [strings_IndexByte.f, Option.bind_some, ← space_num]
  simp

theorem ref_skip_l0 (s : ByteArray) (hs : s.size ≤ 4294967296) (d : Nat) : ∀ (n k : Nat), s.size - n = d → n ≤ s.size → 2 * d + 2 ≤ k → topiaryref11_Skip.l0 k s n = some ((n : Int) + ((s.data.toList.drop n).takeWhile spaceB).length) := by
  induction d with
  | zero =>
    intro n k hd hn hk
    obtain ⟨k, rfl⟩ : ∃ m, k = m + 2 := ⟨k - 2, by omega⟩
    rw [topiaryref11_Skip.l0, if_pos (by omega), show decide ((n : Int) < (s.size : Int)) = false from by simp; omega, topiaryref11_Skip.j1, if_neg (by decide), List.drop_of_length_le (by rw [len_data]; omega)]
    simp
  | succ d ih =>
    intro n k hd hn hk
    obtain ⟨k, rfl⟩ : ∃ m, k = m + 2 := ⟨k - 2, by omega⟩
    have hlt : n < s.size := by omega
    rw [topiaryref11_Skip.l0, if_pos (by omega), show decide ((n : Int) < (s.size : Int)) = true from by simp; omega, topiaryref11_Skip.j1, if_pos rfl, if_pos (by omega), if_pos (by omega), drop_cons s n hlt]
    obtain ⟨c, hc⟩ : ∃ c, s[n] = c := ⟨_, rfl⟩
    rw [nat_of_bt s n hlt c hc, ref_space_f, Option.bind_some, hc]
    by_cases h : spaceB c = true
    · rw [if_pos h, List.takeWhile_cons_of_pos h, wr _ (by omega) (by omega)]
      have := ih (n + 1) k (by omega) (by omega) (by omega)
      rw [show ((n + 1 : Nat) : Int) = (n : Int) + 1 from by omega] at this
      rw [this, List.length_cons]
      congr 1
      omega
    · rw [if_neg h, List.takeWhile_cons_of_neg h]
      simp
theorem ref_skip_f (s : ByteArray) (a : Int) (hs : s.size ≤ 4294967296) (k : Nat) : topiaryref11_Skip.f (2 * s.size + 2 + k) s a = some (skipP s.data.toList a) := by
  unfold topiaryref11_Skip.f skipP
  have hl := len_data s
  by_cases h0 : 0 ≤ a ∧ a ≤ s.size
  · obtain ⟨n, rfl⟩ := Int.eq_ofNat_of_zero_le h0.1
    rw [ref_skip_l0 s hs (s.size - n) n _ rfl (by omega) (by omega), Int.toNat_natCast]
    by_cases h1 : (n : Int) < (s.data.toList.length : Int)
    · rw [if_pos ⟨h0.1, h1⟩]
    · rw [if_neg (fun h => h1 h.2), List.drop_of_length_le (by omega)]
      simp
  · rw [if_neg (by omega)]
    rw [show 2 * s.size + 2 + k = (2 * s.size + k) + 2 from by omega, topiaryref11_Skip.l0]
    by_cases h2 : a ≥ 0
    · rw [if_pos h2, show decide (a < (s.size : Int)) = false from by simp; omega, topiaryref11_Skip.j1, if_neg (by decide)]
    · rw [if_neg h2, topiaryref11_Skip.j1, if_neg (by decide)]

set_option maxHeartbeats 4000000 in
/-- one round of the reference's NameEnd -/
theorem ref_name_step (s : ByteArray) (a : Int) (n : Nat) (hs : s.size ≤ 4294967296) (hlt : n < s.size) (c : UInt8) (hc : s[n] = c) (k : Nat) :
    topiaryref11_NameEnd.l0 (k + 2) s a n = if nameB c = true ∨ (moreB c = true ∧ (n : Int) ≠ a) then topiaryref11_NameEnd.l0 k s a ((n + 1 : Nat) : Int) else some (n : Int) := by
  have hw : wrap64 ((n : Int) + 1) = ((n + 1 : Nat) : Int) := by rw [wr _ (by omega) (by omega)]; omega
  rw [topiaryref11_NameEnd.l0, if_pos (by omega), show decide ((n : Int) < (s.size : Int)) = true from by simp; omega, topiaryref11_NameEnd.j1, if_pos rfl, if_pos (by omega), if_pos (by omega), nat_of_bt s n hlt c hc, hw]
  have hcl := c.toNat_lt
  unfold nameB moreB
  simp only [decide_eq_true_eq]
  generalize topiaryref11_NameEnd.l0 k s a ((n + 1 : Nat) : Int) = A
  generalize c.toNat = v at *
  clear hw hc hs hlt
  repeat' (first | (exfalso; omega) | split)
  all_goals rfl

theorem ref_name_l0 (s : ByteArray) (a : Int) (hs : s.size ≤ 4294967296) (d : Nat) : ∀ (n k : Nat), s.size - n = d → n ≤ s.size → a < n → 2 * d + 2 ≤ k → topiaryref11_NameEnd.l0 k s a n = some ((n : Int) + ((s.data.toList.drop n).takeWhile fun c => nameB c || moreB c).length) := by
  induction d with
  | zero =>
    intro n k hd hn ha hk
    obtain ⟨k, rfl⟩ : ∃ m, k = m + 2 := ⟨k - 2, by omega⟩
    rw [topiaryref11_NameEnd.l0, if_pos (by omega), show decide ((n : Int) < (s.size : Int)) = false from by simp; omega, topiaryref11_NameEnd.j1, if_neg (by decide), List.drop_of_length_le (by rw [len_data]; omega)]
    simp
  | succ d ih =>
    intro n k hd hn ha hk
    obtain ⟨k, rfl⟩ : ∃ m, k = m + 2 := ⟨k - 2, by omega⟩
    have hlt : n < s.size := by omega
    obtain ⟨c, hc⟩ : ∃ c, s[n] = c := ⟨_, rfl⟩
    rw [ref_name_step s a n hs hlt c hc, drop_cons s n hlt, hc]
    by_cases h : (nameB c || moreB c) = true
    · rw [List.takeWhile_cons_of_pos (p := fun c => nameB c || moreB c) h, if_pos (by
        simp only [Bool.or_eq_true] at h
        exact h.imp_right fun h => ⟨h, by omega⟩), ih (n + 1) k (by omega) (by omega) (by omega) (by omega), List.length_cons]
      congr 1
      omega
    · rw [List.takeWhile_cons_of_neg (p := fun c => nameB c || moreB c) h, if_neg (fun h' => h (by
        simp only [Bool.or_eq_true]
        exact h'.imp_right fun h => h.1))]
      simp
theorem ref_name_f (s : ByteArray) (a : Int) (hs : s.size ≤ 4294967296) (k : Nat) : topiaryref11_NameEnd.f (2 * s.size + 2 + k) s a = some (nameEndP s.data.toList a) := by
  unfold topiaryref11_NameEnd.f nameEndP
  have hl := len_data s
  by_cases h0 : 0 ≤ a ∧ a < s.size
  · obtain ⟨n, rfl⟩ := Int.eq_ofNat_of_zero_le h0.1
    have hlt : n < s.size := by omega
    obtain ⟨c, hc⟩ : ∃ c, s[n] = c := ⟨_, rfl⟩
    rw [if_pos ⟨h0.1, by omega⟩, Int.toNat_natCast, show 2 * s.size + 2 + k = (2 * s.size + k) + 2 from by omega, ref_name_step s n n hs hlt c hc, drop_cons s n hlt, hc]
    simp only [nameLen]
    by_cases hn : nameB c = true
    · rw [if_pos (.inl hn), if_pos hn, ref_name_l0 s n hs (s.size - (n + 1)) (n + 1) _ rfl (by omega) (by omega) (by omega)]
      congr 1
      omega
    · rw [if_neg (by simp [hn]), if_neg hn]
      simp
  · rw [if_neg (by omega), show 2 * s.size + 2 + k = (2 * s.size + k) + 2 from by omega, topiaryref11_NameEnd.l0]
    by_cases h2 : a ≥ 0
    · rw [if_pos h2, show decide (a < (s.size : Int)) = false from by simp; omega, topiaryref11_NameEnd.j1, if_neg (by decide)]
    · rw [if_neg h2, topiaryref11_NameEnd.j1, if_neg (by decide)]
theorem name_f (s : ByteArray) (hs : s.size ≤ 4294967296) : chars_Name.f s = some (if s.data.toList = [] then false else nameEndP s.data.toList 0 == (s.size : Int)) := by
  unfold chars_Name.f
  rw [Lib.toList_data]
  by_cases h : s.data.toList = []
  · rw [if_pos h, if_pos h]
  · rw [if_neg h, if_neg h, chars_NameEnd.f, if_pos hs]; rfl

/-! ### Escape -/
theorem ref_escape_l0 (s : ByteArray) (hs : s.size ≤ 4294967296) (d : Nat) : ∀ (n k : Nat) (t : ByteArray), s.size - n = d → n ≤ s.size → d + 1 ≤ k → t.size ≤ 6 * n → topiaryref11_Escape.l0 k s t n = some (t ++ ⟨(escL (s.data.toList.drop n)).toArray⟩) := by
  have happ : ∀ (t : ByteArray) (l : List UInt8), (t ++ (⟨l.toArray⟩ : ByteArray)).size = t.size + l.length := by
    intro t l
    have h : (⟨l.toArray⟩ : ByteArray).size = l.length := by simp [ByteArray.size]
    rw [ByteArray.size_append, h]
  induction d with
  | zero =>
    intro n k t hd hn hk ht
    obtain ⟨k, rfl⟩ : ∃ m, k = m + 1 := ⟨k - 1, by omega⟩
    rw [topiaryref11_Escape.l0, if_neg (by omega), List.drop_of_length_le (by rw [len_data]; omega)]
    congr 1
    exact (ByteArray.append_empty).symm
  | succ d ih =>
    intro n k t hd hn hk ht
    obtain ⟨k, rfl⟩ : ∃ m, k = m + 1 := ⟨k - 1, by omega⟩
    have hlt : n < s.size := by omega
    obtain ⟨c, hc⟩ : ∃ c, s[n] = c := ⟨_, rfl⟩
    have hw : wrap64 ((n : Int) + 1) = ((n + 1 : Nat) : Int) := by rw [wr _ (by omega) (by omega)]; omega
    have hstep : ∀ l : List UInt8, l.length ≤ 6 → escB c = l → topiaryref11_Escape.l0 k s (t ++ (⟨l.toArray⟩ : ByteArray)) ((n + 1 : Nat) : Int) = some (t ++ ⟨(escL (s.data.toList.drop n)).toArray⟩) := by
      intro l hl he
      rw [ih (n + 1) k _ (by omega) (by omega) (by omega) (by rw [happ]; omega), drop_cons s n hlt, hc]
      congr 1
      rw [ByteArray.append_assoc]
      congr 1
      have : escL (c :: s.data.toList.drop (n + 1)) = l ++ escL (s.data.toList.drop (n + 1)) := by rw [← he]; simp [escL]
      rw [this, ← List.append_toArray]
      apply ByteArray.ext
      rw [ByteArray.data_append]
    rw [topiaryref11_Escape.l0, if_pos (by omega), if_pos (by omega), nat_of_bt s n hlt c hc, hw]
    have hne : ∀ b : UInt8, ¬ c = b → ¬ ((c.toNat : Int) = (b.toNat : Int)) := fun b h e => h (UInt8.toNat_inj.1 (by omega))
    by_cases h1 : c = 38
    · subst h1
      rw [if_pos (show (((38 : UInt8).toNat : Int)) = 38 from rfl), if_pos (by omega)]
      exact hstep [38, 97, 109, 112, 59] (by decide) rfl
    rw [if_neg (show ¬ ((c.toNat : Int) = 38) from hne 38 h1)]
    by_cases h2 : c = 60
    · subst h2
      rw [if_pos (show (((60 : UInt8).toNat : Int)) = 60 from rfl), if_pos (by omega)]
      exact hstep [38, 108, 116, 59] (by decide) rfl
    rw [if_neg (show ¬ ((c.toNat : Int) = 60) from hne 60 h2)]
    by_cases h3 : c = 62
    · subst h3
      rw [if_pos (show (((62 : UInt8).toNat : Int)) = 62 from rfl), if_pos (by omega)]
      exact hstep [38, 103, 116, 59] (by decide) rfl
    rw [if_neg (show ¬ ((c.toNat : Int) = 62) from hne 62 h3)]
    by_cases h4 : c = 34
    · subst h4
      rw [if_pos (show (((34 : UInt8).toNat : Int)) = 34 from rfl), if_pos (by omega)]
      exact hstep [38, 113, 117, 111, 116, 59] (by decide) rfl
    rw [if_neg (show ¬ ((c.toNat : Int) = 34) from hne 34 h4), if_pos (by omega), if_pos (by omega)]
    have hx : s.extract (n : Int).toNat ((n + 1 : Nat) : Int).toNat = ⟨[c].toArray⟩ := by
      rw [Lib.extract_eq, Int.toNat_natCast, Int.toNat_natCast, drop_cons s n hlt, hc, show n + 1 - n = 1 from by omega]
      rfl
    rw [hx, if_pos (by rw [show (⟨[c].toArray⟩ : ByteArray).size = 1 from rfl]; omega)]
    exact hstep [c] (by simp) (by unfold escB; rw [if_neg h1, if_neg h2, if_neg h3, if_neg h4])
theorem ref_escape_f (s : ByteArray) (hs : s.size ≤ 4294967296) (k : Nat) : topiaryref11_Escape.f (s.size + 1 + k) s = some ⟨(escL s.data.toList).toArray⟩ := by
  have := ref_escape_l0 s hs s.size 0 (s.size + 1 + k) ⟨#[]⟩ (by omega) (by omega) (by omega) (by decide)
  rw [List.drop_zero] at this
  unfold topiaryref11_Escape.f
  refine this.trans ?_
  congr 1

end Go.Proofs.Ytekkaoenabjeiaa.P11
