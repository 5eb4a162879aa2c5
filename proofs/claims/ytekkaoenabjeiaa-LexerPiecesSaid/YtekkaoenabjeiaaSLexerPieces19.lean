/- Parts of the proof of lexerPieces_holds, kept and merged by a program of mine (wip/tools/slim.py) out of my texts: P11d LexJ Q23 -/
import Derived.Test.YtekkaoenabjeiaaSLexerPieces4
import Derived.Test.YtekkaoenabjeiaaSLexerPieces15
import Derived.Test.YtekkaoenabjeiaaSLexerPieces16
import Derived.Test.YtekkaoenabjeiaaSLexerPieces13
import Derived.Test.YtekkaoenabjeiaaSLexerPieces8
import Derived.Test.YtekkaoenabjeiaaSLexerPieces17
import Derived.Test.YtekkaoenabjeiaaSLexerPieces11
import Derived.Test.YtekkaoenabjeiaaSLexerPieces5
import Derived.Test.YtekkaoenabjeiaaSLexerPieces18
import Derived.Test.YtekkaoenabjeiaaSLexerPieces14
section
set_option linter.unusedVariables false
set_option linter.unusedSimpArgs false
namespace Go.Proofs.Ytekkaoenabjeiaa.P11
open Go Go.RowKit Go.Proofs.Ytekkaoenabjeiaa Go.Proofs.Ytekkaoenabjeiaa.Q Go.Proofs.YtekkaoenabjeiaaW.PrintWords Go.Proofs.Ytekkaoenabjeiaa.X Go.Proofs.Ytekkaoenabjeiaa.RefE
def lessN (n : Nat) : Int := if n = 2 then 192 else if n = 3 then 224 else if n = 4 then 240 else 0
def codeGo : Int → List UInt8 → Int
  | c, [] => c
  | c, b :: t => codeGo (c * 64 + (b.toNat : Int) - 128) t
def refCode (n : Nat) : List UInt8 → Int
  | [] => 0
  | b :: t => codeGo ((b.toNat : Int) - lessN n) (t.take (n - 1))
theorem refCode_enc (c : Int) (hp : pointB c = true) (t : List UInt8) : refCode (sizeN c).toNat (encL c ++ t) = c := by
  have hb := point_range hp
  unfold encL sizeN
  rw [if_pos hp]
  by_cases h1 : c < 128
  · rw [if_pos h1, if_pos h1]
    have e0 := byteI_nat c hb.1 (by omega)
    show codeGo ((byteI c).toNat - lessN 1) [] = c
    rw [codeGo, show lessN 1 = 0 from rfl]; omega
  rw [if_neg h1, if_neg h1]
  by_cases h2 : c < 2048
  · rw [if_pos h2, if_pos h2]
    have e0 := byteI_nat (192 + c / 64) (by omega) (by omega)
    have e1 := byteI_nat (128 + c % 64) (by omega) (by omega)
    show codeGo ((byteI (192 + c / 64)).toNat - lessN 2) [byteI (128 + c % 64)] = c
    rw [codeGo, codeGo, show lessN 2 = 192 from rfl]; omega
  rw [if_neg h2, if_neg h2]
  by_cases h3 : c < 65536
  · rw [if_pos h3, if_pos h3]
    have e0 := byteI_nat (224 + c / 4096) (by omega) (by omega)
    have e1 := byteI_nat (128 + c / 64 % 64) (by omega) (by omega)
    have e2 := byteI_nat (128 + c % 64) (by omega) (by omega)
    show codeGo ((byteI (224 + c / 4096)).toNat - lessN 3) [byteI (128 + c / 64 % 64), byteI (128 + c % 64)] = c
    rw [codeGo, codeGo, codeGo, show lessN 3 = 224 from rfl]; omega
  rw [if_neg h3, if_neg h3]
  have e0 := byteI_nat (240 + c / 262144) (by omega) (by omega)
  have e1 := byteI_nat (128 + c / 4096 % 64) (by omega) (by omega)
  have e2 := byteI_nat (128 + c / 64 % 64) (by omega) (by omega)
  have e3 := byteI_nat (128 + c % 64) (by omega) (by omega)
  show codeGo ((byteI (240 + c / 262144)).toNat - lessN 4) [byteI (128 + c / 4096 % 64), byteI (128 + c / 64 % 64), byteI (128 + c % 64)] = c
  rw [codeGo, codeGo, codeGo, codeGo, show lessN 4 = 240 from rfl]; omega
def tryN (n : Nat) (l : List UInt8) : Bool := decide (encL (refCode n l) ≠ []) && (encL (refCode n l) == l.take n)
theorem try_yes (n : Nat) (l : List UInt8) (hn : n ≤ l.length) (h : tryN n l = true) : decL l = (refCode n l, (n : Int)) := by
  unfold tryN at h
  simp only [Bool.and_eq_true, decide_eq_true_eq, beq_iff_eq] at h
  obtain ⟨h1, h2⟩ := h
  have hp : pointB (refCode n l) = true := by
    by_cases hp : pointB (refCode n l) = true
    · exact hp
    · exact absurd ((enc_nil _).2 (by simpa using hp)) h1
  have hl := enc_len _ hp
  have hd := dec_enc _ hp (l.drop n)
  rw [h2, List.take_append_drop] at hd
  rw [hd]
  congr 1
  rw [← hl, h2, List.length_take]
  omega
theorem try_at (l : List UInt8) (h : ¬ (decL l).2 = 0) : tryN (decL l).2.toNat l = true ∧ 1 ≤ (decL l).2.toNat ∧ (decL l).2.toNat ≤ 4 ∧ (decL l).2.toNat ≤ l.length := by
  obtain ⟨hp, hs, t, ht⟩ := enc_dec l h
  have hr := dec_range l
  have hl := enc_len _ hp
  refine ⟨?_, by omega, by omega, by omega⟩
  have hc : refCode (decL l).2.toNat l = (decL l).1 := by
    have := refCode_enc _ hp t
    rw [← ht, ← hs] at this
    exact this
  unfold tryN
  rw [hc]
  simp only [Bool.and_eq_true, decide_eq_true_eq, beq_iff_eq]
  refine ⟨fun e => ?_, ?_⟩
  · rw [e] at hl
    have := sizeN_range (decL l).1
    simp at hl; omega
  · have : l.take (decL l).2.toNat = (encL (decL l).1 ++ t).take (decL l).2.toNat := by rw [← ht]
    rw [this, hs, ← hl, Int.toNat_natCast, List.take_left]
def triesFrom (l : List UInt8) : Nat → Nat → Int × Int
  | 0, _ => (-1, 0)
  | d + 1, n => if n ≤ l.length then (if tryN n l then (refCode n l, (n : Int)) else triesFrom l d (n + 1)) else (-1, 0)
theorem tries_eq (l : List UInt8) : triesFrom l 4 1 = decL l := by
  have hno : ∀ d n, n + d = 5 → (∀ m, 1 ≤ m → m < n → tryN m l = true → ¬ m ≤ l.length) → triesFrom l d n = decL l := by
    intro d
    induction d with
    | zero =>
      intro n hn h
      rw [triesFrom]
      by_cases h0 : (decL l).2 = 0
      · exact (dec_none l h0).symm
      · obtain ⟨a, b, c, e⟩ := try_at l h0
        exact absurd e (h _ b (by omega) a)
    | succ d ih =>
      intro n hn h
      rw [triesFrom]
      by_cases hl : n ≤ l.length
      · rw [if_pos hl]
        by_cases ht : tryN n l = true
        · rw [if_pos ht]
          exact (try_yes n l hl ht).symm
        · rw [if_neg ht]
          refine ih (n + 1) (by omega) fun m h1 h2 h3 => ?_
          by_cases hm : m = n
          · subst hm; exact absurd h3 ht
          · exact h m h1 (by omega) h3
      · rw [if_neg hl]
        by_cases h0 : (decL l).2 = 0
        · exact (dec_none l h0).symm
        · obtain ⟨a, b, c, e⟩ := try_at l h0
          by_cases hm : (decL l).2.toNat < n
          · exact absurd e (h _ b hm a)
          · omega
  exact hno 4 1 rfl fun m h1 h2 => by omega
theorem code_bound : ∀ (t : List UInt8) (c : Int), t.length ≤ 3 → -1000 ≤ c → c ≤ 1000 → -300000000 ≤ codeGo c t ∧ codeGo c t ≤ 300000000 := by
  intro t c h h0 h1
  match t, h with
  | [], _ => rw [codeGo]; omega
  | [x], _ => have := x.toNat_lt; rw [codeGo, codeGo]; omega
  | [x, y], _ => have := x.toNat_lt; have := y.toNat_lt; rw [codeGo, codeGo, codeGo]; omega
  | [x, y, z], _ => have := x.toNat_lt; have := y.toNat_lt; have := z.toNat_lt; rw [codeGo, codeGo, codeGo, codeGo]; omega
def endOf (k : Nat) (s : ByteArray) (a n : Nat) (code : Int) : Option (Int × Int) :=
  if encL code = [] then topiaryref11_Rune.l0 k s a ((n : Int) + 1) else if encL code = (s.data.toList.drop a).take n then some (code, (n : Int)) else topiaryref11_Rune.l0 k s a ((n : Int) + 1)
theorem rune_l1 (s : ByteArray) (a n : Nat) (hs : s.size ≤ 4294967296) (hn : n ≤ 4) (ha : a + n ≤ s.size) (d : Nat) : ∀ (i k : Nat) (c : Int), i + d = n → 1 ≤ i → i ≤ 4 → -300000000 ≤ c → c ≤ 300000000 →
    (∀ j, j ≤ d → -300000000 ≤ codeGo c ((s.data.toList.drop (a + i)).take j) ∧ codeGo c ((s.data.toList.drop (a + i)).take j) ≤ 300000000) →
    topiaryref11_Rune.l1 (k + d + 1) s a n c i = endOf k s a n (codeGo c ((s.data.toList.drop (a + i)).take d)) := by
  induction d with
  | zero =>
    intro i k c hi h1 h4 hc0 hc1 hall
    rw [topiaryref11_Rune.l1, if_neg (by omega), encode_f, Option.bind_some, List.take_zero, codeGo, Lib.toList_data]
    unfold endOf
    have hdat : (⟨(encL c).toArray⟩ : ByteArray).data.toList = encL c := rfl
    rw [hdat, wr ((n : Int) + 1) (by omega) (by omega)]
    by_cases he : encL c = []
    · rw [if_pos he, if_pos he]
    rw [if_neg he, if_neg he, if_pos (by omega), wr ((a : Int) + (n : Int)) (by omega) (by omega), if_pos (by omega), if_pos (by omega), Lib.extract_toList, Int.toNat_natCast, show ((a : Int) + (n : Int)).toNat - a = n from by omega]
  | succ d ih =>
    intro i k c hi h1 h4 hc0 hc1 hall
    have hlt : a + i < s.size := by omega
    rw [show k + (d + 1) + 1 = (k + d + 1) + 1 from by omega, topiaryref11_Rune.l1, if_pos (by omega)]
    have hw : wrap64 ((a : Int) + (i : Int)) = ((a + i : Nat) : Int) := by rw [wr _ (by omega) (by omega)]; omega
    rw [hw, if_pos (by omega), if_pos (by omega), if_neg (by omega), bt_get s _ hlt, drop_cons s _ hlt, List.take_succ_cons, codeGo]
    obtain ⟨x, hx⟩ : ∃ x, s[a + i] = x := ⟨_, rfl⟩
    rw [hx]
    have hxl := x.toNat_lt
    have hall' : ∀ j, j ≤ d → -300000000 ≤ codeGo (c * 64 + (x.toNat : Int) - 128) ((s.data.toList.drop (a + i + 1)).take j) ∧ codeGo (c * 64 + (x.toNat : Int) - 128) ((s.data.toList.drop (a + i + 1)).take j) ≤ 300000000 := by
      intro j hj
      have := hall (j + 1) (by omega)
      rw [drop_cons s _ hlt, List.take_succ_cons, codeGo, hx] at this
      exact this
    have h0 := hall' 0 (by omega)
    rw [List.take_zero, codeGo] at h0
    rw [wr (c * 64) (by omega) (by omega), wr (x.toNat : Int) (by omega) (by omega), wr (c * 64 + (x.toNat : Int)) (by omega) (by omega), wr (c * 64 + (x.toNat : Int) - 128) (by omega) (by omega), wr ((i : Int) + 1) (by omega) (by omega)]
    have := ih (i + 1) k (c * 64 + (x.toNat : Int) - 128) (by omega) (by omega) (by omega) h0.1 h0.2 hall'
    rw [show ((i + 1 : Nat) : Int) = (i : Int) + 1 from by omega, show a + (i + 1) = a + i + 1 from by omega] at this
    exact this
theorem rune_try (s : ByteArray) (a n : Nat) (hs : s.size ≤ 4294967296) (h1 : 1 ≤ n) (hn : n ≤ 4) (ha : a + n ≤ s.size) (k : Nat) :
    topiaryref11_Rune.l1 (k + n + 2) s a n 0 0 = endOf k s a n (refCode n (s.data.toList.drop a)) := by
  have hlt : a < s.size := by omega
  rw [topiaryref11_Rune.l1, if_pos (by omega)]
  have hw : wrap64 ((a : Int) + 0) = (a : Int) := by rw [wr _ (by omega) (by omega)]; omega
  rw [hw, if_pos (by omega), if_pos (by omega), if_pos rfl, bt_get s _ hlt, drop_cons s _ hlt]
  obtain ⟨x, hx⟩ : ∃ x, s[a] = x := ⟨_, rfl⟩
  rw [hx]
  have hxl := x.toNat_lt
  rw [wr (x.toNat : Int) (by omega) (by omega)]
  have hless : 0 ≤ lessN n ∧ lessN n ≤ 240 := by unfold lessN; repeat' split <;> omega
  have hj : ∀ y : Int, (n ≠ 3 → n ≠ 4 → y = lessN n) → topiaryref11_Rune.j4 (k + n + 1) s a n 0 (x.toNat : Int) y = topiaryref11_Rune.l1 (k + n) s a n ((x.toNat : Int) - lessN n) 1 := by
    intro y hy
    rw [topiaryref11_Rune.j4]
    by_cases h3 : n = 3
    · subst h3
      rw [if_pos (by omega), if_neg (by omega), wr _ (by omega) (by omega), wr _ (by omega) (by omega)]
      rfl
    · rw [if_neg (by omega)]
      by_cases h4 : n = 4
      · subst h4
        rw [if_pos (by omega), wr _ (by omega) (by omega), wr _ (by omega) (by omega)]
        rfl
      · rw [if_neg (by omega), hy h3 h4, wr _ (by omega) (by omega), wr _ (by omega) (by omega)]
        rfl
  have hfin : topiaryref11_Rune.l1 (k + n) s a n ((x.toNat : Int) - lessN n) 1 = endOf k s a n (refCode n (x :: s.data.toList.drop (a + 1))) := by
    have hb : ∀ j, j ≤ n - 1 → -300000000 ≤ codeGo ((x.toNat : Int) - lessN n) ((s.data.toList.drop (a + 1)).take j) ∧ codeGo ((x.toNat : Int) - lessN n) ((s.data.toList.drop (a + 1)).take j) ≤ 300000000 :=
      fun j hj => code_bound _ _ (by rw [List.length_take]; omega) (by omega) (by omega)
    have := rune_l1 s a n hs hn ha (n - 1) 1 k ((x.toNat : Int) - lessN n) (by omega) (by omega) (by omega) (by omega) (by omega) hb
    rw [show k + (n - 1) + 1 = k + n from by omega] at this
    exact this
  by_cases h2 : n = 2
  · subst h2
    rw [if_pos (by rfl), hj 192 (fun _ _ => rfl), hfin]
  · rw [if_neg (by omega), hj 0 (fun h3 h4 => by unfold lessN; rw [if_neg h2, if_neg h3, if_neg h4]), hfin]
theorem rune_l0 (s : ByteArray) (a : Nat) (hs : s.size ≤ 4294967296) (ha : a < s.size) (d : Nat) : ∀ (n k : Nat), n + d = 5 → 1 ≤ n → 10 * d + 2 ≤ k →
    topiaryref11_Rune.l0 k s a n = some (triesFrom (s.data.toList.drop a) d n) := by
  have hlen : (s.data.toList.drop a).length = s.size - a := by rw [List.length_drop, len_data]
  induction d with
  | zero =>
    intro n k hn h1 hk
    obtain ⟨k, rfl⟩ : ∃ m, k = m + 2 := ⟨k - 2, by omega⟩
    rw [topiaryref11_Rune.l0, if_neg (by omega), topiaryref11_Rune.j2, if_neg (by decide), triesFrom]
  | succ d ih =>
    intro n k hn h1 hk
    obtain ⟨k, rfl⟩ : ∃ m, k = m + n + 4 := ⟨k - n - 4, by omega⟩
    rw [topiaryref11_Rune.l0, if_pos (by omega), wr ((s.size : Int) - (a : Int)) (by omega) (by omega), triesFrom]
    by_cases hl : n ≤ (s.data.toList.drop a).length
    · rw [if_pos hl, show decide ((n : Int) ≤ (s.size : Int) - (a : Int)) = true from by simp; omega, topiaryref11_Rune.j2, if_pos rfl, rune_try s a n hs h1 (by omega) (by omega)]
      unfold endOf
      have hr := ih (n + 1) k (by omega) (by omega) (by omega)
      rw [show ((n + 1 : Nat) : Int) = (n : Int) + 1 from by omega] at hr
      by_cases he : encL (refCode n (s.data.toList.drop a)) = []
      · have ht : tryN n (s.data.toList.drop a) = false := by unfold tryN; simp [he]
        rw [if_pos he, ht, hr]; rfl
      · rw [if_neg he]
        by_cases he2 : encL (refCode n (s.data.toList.drop a)) = (s.data.toList.drop a).take n
        · have ht : tryN n (s.data.toList.drop a) = true := by unfold tryN; simp [he, ← he2]
          rw [if_pos he2, ht]; rfl
        · have ht : tryN n (s.data.toList.drop a) = false := by unfold tryN; simp [he2]
          rw [if_neg he2, ht, hr]; rfl
    · rw [if_neg hl, show decide ((n : Int) ≤ (s.size : Int) - (a : Int)) = false from by simp; omega, topiaryref11_Rune.j2, if_neg (by decide)]
theorem ref_rune_f (s : ByteArray) (a : Int) (hs : s.size ≤ 4294967296) (k : Nat) : topiaryref11_Rune.f (k + 43) s a = some (runeP s.data.toList a) := by
  have hl := len_data s
  unfold topiaryref11_Rune.f runeP
  by_cases h0 : a < 0
  · rw [if_pos h0, topiaryref11_Rune.j0, if_pos rfl, if_neg (by omega)]
  rw [if_neg h0]
  by_cases h1 : a ≥ (s.size : Int)
  · rw [show decide (a ≥ (s.size : Int)) = true from by simpa using h1, topiaryref11_Rune.j0, if_pos rfl, if_neg (by omega)]
  · obtain ⟨n, rfl⟩ := Int.eq_ofNat_of_zero_le (by omega : 0 ≤ a)
    rw [show decide ((n : Int) ≥ (s.size : Int)) = false from by simpa using h1, topiaryref11_Rune.j0, if_neg (by decide), if_pos (by omega), Int.toNat_natCast]
    have := rune_l0 s n hs (by omega) 4 1 (k + 42) rfl (by omega) (by omega)
    rw [tries_eq] at this
    exact this
theorem valid_at (s : ByteArray) (n : Nat) (hn : n < s.size) : validL (s.data.toList.drop n) = (decide (0 < (runeP s.data.toList n).2) && allowedB (runeP s.data.toList n).1 && validL (s.data.toList.drop (n + (runeP s.data.toList n).2.toNat))) := by
  have hp : runeP s.data.toList (n : Int) = decL (s.data.toList.drop n) := by
    unfold runeP
    rw [if_pos ⟨by omega, by rw [len_data]; omega⟩, Int.toNat_natCast]
  rw [hp, drop_cons s n hn, valid_cons, ← drop_cons s n hn, List.drop_drop]
theorem ref_valid_l0 (s : ByteArray) (hs : s.size ≤ 4294967296) (d : Nat) : ∀ (n k : Nat), s.size - n = d → n ≤ s.size → d + 50 ≤ k → topiaryref11_Valid.l0 k s n = some (validL (s.data.toList.drop n)) := by
  induction d using Nat.strongRecOn with
  | ind d ih =>
    intro n k hd hn hk
    obtain ⟨k, rfl⟩ : ∃ m, k = m + 1 := ⟨k - 1, by omega⟩
    rw [topiaryref11_Valid.l0]
    by_cases hlt : n < s.size
    · rw [if_pos (by omega), show k = (k - 43) + 43 from by omega, ref_rune_f s n hs, Option.bind_some, allowed_f, Option.bind_some, valid_at s n hlt]
      have hp : runeP s.data.toList (n : Int) = decL (s.data.toList.drop n) := by
        unfold runeP
        rw [if_pos ⟨by omega, by rw [len_data]; omega⟩, Int.toNat_natCast]
      have hr := dec_range (s.data.toList.drop n)
      rw [← hp, List.length_drop, len_data] at hr
      by_cases h0 : (runeP s.data.toList (n : Int)).2 = 0
      · rw [if_pos h0, h0]; rfl
      · rw [if_neg h0, show decide (0 < (runeP s.data.toList (n : Int)).2) = true from by simp; omega, Bool.true_and]
        by_cases ha : allowedB (runeP s.data.toList (n : Int)).1 = true
        · rw [if_pos ha, ha, Bool.true_and, wr _ (by omega) (by omega), show (n : Int) + (runeP s.data.toList (n : Int)).2 = ((n + (runeP s.data.toList (n : Int)).2.toNat : Nat) : Int) from by omega]
          exact ih _ (by omega) _ _ rfl (by omega) (by omega)
        · rw [if_neg ha, show allowedB (runeP s.data.toList (n : Int)).1 = false from by simpa using ha]; rfl
    · rw [if_neg (by omega), List.drop_of_length_le (by rw [len_data]; omega)]; rfl
theorem ref_valid_f (s : ByteArray) (hs : s.size ≤ 4294967296) (k : Nat) : topiaryref11_Valid.f (s.size + 50 + k) s = some (validL s.data.toList) :=
  ref_valid_l0 s hs s.size 0 _ (by omega) (by omega) (by omega)
theorem valid_l0 (d : Nat) : ∀ (s : ByteArray) (k : Nat), s.size = d → s.size ≤ 4294967296 → d + 2 ≤ k → chars_Valid.l0 k s = some (validL s.data.toList) := by
  induction d using Nat.strongRecOn with
  | ind d ih =>
    intro s k hd hs hk
    obtain ⟨k, rfl⟩ : ∃ m, k = m + 2 := ⟨k - 2, by omega⟩
    rw [chars_Valid.l0]
    by_cases hlt : 0 < s.size
    · rw [if_pos (by omega), chars_Rune.f, if_pos hs, Option.bind_some]
      have hv := valid_at s 0 hlt
      have hp : runeP s.data.toList ((0 : Nat) : Int) = decL (s.data.toList.drop 0) := by
        unfold runeP
        rw [if_pos ⟨by omega, by rw [len_data]; omega⟩, Int.toNat_natCast]
      have hr := dec_range (s.data.toList.drop 0)
      rw [← hp, List.length_drop, len_data] at hr
      rw [List.drop_zero, Nat.zero_add] at hv
      have e0 : ((0 : Nat) : Int) = 0 := rfl
      rw [e0] at hv hr
      rw [hv]
      by_cases h0 : (runeP s.data.toList 0).2 = 0
      · rw [if_pos h0, h0]; rfl
      · rw [if_neg h0, callowed_f, Option.bind_some, show decide (0 < (runeP s.data.toList 0).2) = true from by simp; omega, Bool.true_and]
        by_cases ha : allowedB (runeP s.data.toList 0).1 = true
        · rw [if_pos ha, ha, Bool.true_and, if_pos (by omega), if_pos (by omega)]
          have hdat : (s.extract (runeP s.data.toList 0).2.toNat s.size).data.toList = s.data.toList.drop (runeP s.data.toList 0).2.toNat := by
            rw [Lib.extract_data, List.take_of_length_le (by rw [List.length_drop, len_data]; exact Nat.le_refl _)]
          have hsz : (s.extract (runeP s.data.toList 0).2.toNat s.size).size = s.size - (runeP s.data.toList 0).2.toNat := by rw [Lib.size_eq, hdat, List.length_drop, len_data]
          rw [← hdat]
          exact ih (s.size - (runeP s.data.toList 0).2.toNat) (by omega) _ _ hsz (by omega) (by omega)
        · rw [if_neg ha, show allowedB (runeP s.data.toList 0).1 = false from by simpa using ha]; rfl
    · have : s.data.toList = [] := List.eq_nil_of_length_eq_zero (by rw [len_data]; omega)
      rw [if_neg (by omega), this]; rfl
theorem valid_f (s : ByteArray) (hs : s.size ≤ 4294967296) (k : Nat) : chars_Valid.f (s.size + 2 + k) s = some (validL s.data.toList) := valid_l0 s.size s _ rfl hs (by omega)
theorem nat_of_bt (s : ByteArray) (n : Nat) (h : n < s.size) (c : UInt8) (hc : s[n] = c) : bt s (n : Int) = (c.toNat : Int) := by rw [bt_get s n h, hc]
theorem ref_space_f (c : UInt8) : topiaryref11_Space.f (c.toNat : Int) = some (spaceB c) := by
  unfold topiaryref11_Space.f spaceB
  repeat' split
  all_goals
    congr 1
    rw [Bool.eq_iff_iff]
    simp
    omega
theorem ref_skip_l0 (s : ByteArray) (hs : s.size ≤ 4294967296) (d : Nat) : ∀ (n k : Nat), s.size - n = d → n ≤ s.size → 2 * d + 2 ≤ k → topiaryref11_Skip.l0 k s n = some ((n : Int) + ((s.data.toList.drop n).takeWhile spaceB).length) := by
  induction d with
  | zero =>
    intro n k hd hn hk
    obtain ⟨k, rfl⟩ : ∃ m, k = m + 2 := ⟨k - 2, by omega⟩
    rw [topiaryref11_Skip.l0, if_pos (by omega), show decide ((n : Int) < (s.size : Int)) = false from by simp; omega, topiaryref11_Skip.j1, if_neg (by decide), List.drop_of_length_le (by rw [len_data]; omega)]
    simp
  | succ d ih =>
    intro n k hd hn hk
    obtain ⟨k, rfl⟩ : ∃ m, k = m + 2 := ⟨k - 2, by omega⟩
    have hlt : n < s.size := by omega
    rw [topiaryref11_Skip.l0, if_pos (by omega), show decide ((n : Int) < (s.size : Int)) = true from by simp; omega, topiaryref11_Skip.j1, if_pos rfl, if_pos (by omega), if_pos (by omega), drop_cons s n hlt]
    obtain ⟨c, hc⟩ : ∃ c, s[n] = c := ⟨_, rfl⟩
    rw [nat_of_bt s n hlt c hc, ref_space_f, Option.bind_some, hc]
    by_cases h : spaceB c = true
    · rw [if_pos h, List.takeWhile_cons_of_pos h, wr _ (by omega) (by omega)]
      have := ih (n + 1) k (by omega) (by omega) (by omega)
      rw [show ((n + 1 : Nat) : Int) = (n : Int) + 1 from by omega] at this
      rw [this, List.length_cons]
      congr 1
      omega
    · rw [if_neg h, List.takeWhile_cons_of_neg h]
      simp
theorem ref_skip_f (s : ByteArray) (a : Int) (hs : s.size ≤ 4294967296) (k : Nat) : topiaryref11_Skip.f (2 * s.size + 2 + k) s a = some (skipP s.data.toList a) := by
  unfold topiaryref11_Skip.f skipP
  have hl := len_data s
  by_cases h0 : 0 ≤ a ∧ a ≤ s.size
  · obtain ⟨n, rfl⟩ := Int.eq_ofNat_of_zero_le h0.1
    rw [ref_skip_l0 s hs (s.size - n) n _ rfl (by omega) (by omega), Int.toNat_natCast]
    by_cases h1 : (n : Int) < (s.data.toList.length : Int)
    · rw [if_pos ⟨h0.1, h1⟩]
    · rw [if_neg (fun h => h1 h.2), List.drop_of_length_le (by omega)]
      simp
  · rw [if_neg (by omega)]
    rw [show 2 * s.size + 2 + k = (2 * s.size + k) + 2 from by omega, topiaryref11_Skip.l0]
    by_cases h2 : a ≥ 0
    · rw [if_pos h2, show decide (a < (s.size : Int)) = false from by simp; omega, topiaryref11_Skip.j1, if_neg (by decide)]
    · rw [if_neg h2, topiaryref11_Skip.j1, if_neg (by decide)]
set_option maxHeartbeats 4000000 in
theorem ref_name_step (s : ByteArray) (a : Int) (n : Nat) (hs : s.size ≤ 4294967296) (hlt : n < s.size) (c : UInt8) (hc : s[n] = c) (k : Nat) :
    topiaryref11_NameEnd.l0 (k + 2) s a n = if nameB c = true ∨ (moreB c = true ∧ (n : Int) ≠ a) then topiaryref11_NameEnd.l0 k s a ((n + 1 : Nat) : Int) else some (n : Int) := by
  have hw : wrap64 ((n : Int) + 1) = ((n + 1 : Nat) : Int) := by rw [wr _ (by omega) (by omega)]; omega
  rw [topiaryref11_NameEnd.l0, if_pos (by omega), show decide ((n : Int) < (s.size : Int)) = true from by simp; omega, topiaryref11_NameEnd.j1, if_pos rfl, if_pos (by omega), if_pos (by omega), nat_of_bt s n hlt c hc, hw]
  have hcl := c.toNat_lt
  unfold nameB moreB
  simp only [decide_eq_true_eq]
  generalize topiaryref11_NameEnd.l0 k s a ((n + 1 : Nat) : Int) = A
  generalize c.toNat = v at *
  clear hw hc hs hlt
  repeat' (first | (exfalso; omega) | split)
  all_goals rfl
theorem ref_name_l0 (s : ByteArray) (a : Int) (hs : s.size ≤ 4294967296) (d : Nat) : ∀ (n k : Nat), s.size - n = d → n ≤ s.size → a < n → 2 * d + 2 ≤ k → topiaryref11_NameEnd.l0 k s a n = some ((n : Int) + ((s.data.toList.drop n).takeWhile fun c => nameB c || moreB c).length) := by
  induction d with
  | zero =>
    intro n k hd hn ha hk
    obtain ⟨k, rfl⟩ : ∃ m, k = m + 2 := ⟨k - 2, by omega⟩
    rw [topiaryref11_NameEnd.l0, if_pos (by omega), show decide ((n : Int) < (s.size : Int)) = false from by simp; omega, topiaryref11_NameEnd.j1, if_neg (by decide), List.drop_of_length_le (by rw [len_data]; omega)]
    simp
  | succ d ih =>
    intro n k hd hn ha hk
    obtain ⟨k, rfl⟩ : ∃ m, k = m + 2 := ⟨k - 2, by omega⟩
    have hlt : n < s.size := by omega
    obtain ⟨c, hc⟩ : ∃ c, s[n] = c := ⟨_, rfl⟩
    rw [ref_name_step s a n hs hlt c hc, drop_cons s n hlt, hc]
    by_cases h : (nameB c || moreB c) = true
    · rw [List.takeWhile_cons_of_pos (p := fun c => nameB c || moreB c) h, if_pos (by
        simp only [Bool.or_eq_true] at h
        exact h.imp_right fun h => ⟨h, by omega⟩), ih (n + 1) k (by omega) (by omega) (by omega) (by omega), List.length_cons]
      congr 1
      omega
    · rw [List.takeWhile_cons_of_neg (p := fun c => nameB c || moreB c) h, if_neg (fun h' => h (by
        simp only [Bool.or_eq_true]
        exact h'.imp_right fun h => h.1))]
      simp
theorem ref_name_f (s : ByteArray) (a : Int) (hs : s.size ≤ 4294967296) (k : Nat) : topiaryref11_NameEnd.f (2 * s.size + 2 + k) s a = some (nameEndP s.data.toList a) := by
  unfold topiaryref11_NameEnd.f nameEndP
  have hl := len_data s
  by_cases h0 : 0 ≤ a ∧ a < s.size
  · obtain ⟨n, rfl⟩ := Int.eq_ofNat_of_zero_le h0.1
    have hlt : n < s.size := by omega
    obtain ⟨c, hc⟩ : ∃ c, s[n] = c := ⟨_, rfl⟩
    rw [if_pos ⟨h0.1, by omega⟩, Int.toNat_natCast, show 2 * s.size + 2 + k = (2 * s.size + k) + 2 from by omega, ref_name_step s n n hs hlt c hc, drop_cons s n hlt, hc]
    simp only [nameLen]
    by_cases hn : nameB c = true
    · rw [if_pos (.inl hn), if_pos hn, ref_name_l0 s n hs (s.size - (n + 1)) (n + 1) _ rfl (by omega) (by omega) (by omega)]
      congr 1
      omega
    · rw [if_neg (by simp [hn]), if_neg hn]
      simp
  · rw [if_neg (by omega), show 2 * s.size + 2 + k = (2 * s.size + k) + 2 from by omega, topiaryref11_NameEnd.l0]
    by_cases h2 : a ≥ 0
    · rw [if_pos h2, show decide (a < (s.size : Int)) = false from by simp; omega, topiaryref11_NameEnd.j1, if_neg (by decide)]
    · rw [if_neg h2, topiaryref11_NameEnd.j1, if_neg (by decide)]
end Go.Proofs.Ytekkaoenabjeiaa.P11
end
section
set_option linter.unusedVariables false
set_option linter.unusedSimpArgs false
namespace Go.Proofs.Ytekkaoenabjeiaa.X
open Go.RowKit Go.Proofs.Ytekkaoenabjeiaa Go.Proofs.Ytekkaoenabjeiaa.Q Go.Proofs.Ytekkaoenabjeiaa.P11 Go.Proofs.YtekkaoenabjeiaaW.PrintWords Go.Proofs.YtekkaoenabjeiaaW.PrintLast Go.Proofs.YtekkaoenabjeiaaW.PrintMore
variable {w0 W : World} {g : Nat} {d : ByteArray} {a : Int} {ts : List Tok} {x : Bool}
def LexRel (d : ByteArray) (P : Option (List Tok)) (a : Int) (acc : List Tok) : Prop :=
  0 ≤ a ∧ a ≤ (d.size : Int) ∧ (acc.length : Int) ≤ a ∧ ∃ n : Nat, (d.size : Int) - a < n ∧ P = lexF d n a acc
theorem Rd.new (w W : World) (d : ByteArray) (hB : Below w.heap.size w W) : Rd w (W.alloc (.cells #[.string d, .int .i64 0, .slice none 0 0, .bool false] 74)) W.heap.size d 0 [] false :=
  ⟨.slice none 0 0, by simpa using heap_alloc_new W _, hB.size, Kd.R_nil _ _ _ _ _, below_alloc hB _⟩
theorem enters5 : (∀ a w, Sem.run Try.prog (callFunc 69 a) w = .ok (.enter 69 a) w) ∧ (∀ a w, Sem.run Try.prog (callFunc 70 a) w = .ok (.enter 70 a) w) ∧ (∀ a w, Sem.run Try.prog (callFunc 71 a) w = .ok (.enter 71 a) w) ∧ (∀ a w, Sem.run Try.prog (callFunc 72 a) w = .ok (.enter 72 a) w) ∧ (∀ a w, Sem.run Try.prog (callFunc 73 a) w = .ok (.enter 73 a) w) :=
  ⟨fun _ _ => by kernel_rfl, fun _ _ => by kernel_rfl, fun _ _ => by kernel_rfl, fun _ _ => by kernel_rfl, fun _ _ => by kernel_rfl⟩
theorem goes_on (w : World) (h : Rd w0 w g d a ts false) (hG : G w0) (hl : ts.length ≤ 100000) (hs : d.size ≤ 65536) (h0 : 0 ≤ a) (h1 : a < (d.size : Int)) :
    Calls Try.prog (nextK d a) #[.pointer (some ⟨g, 0, none⟩)] w fun e w' => e = .returned (.tuple #[]) ∧ Step w0 w' g d ts (stepP d a) := by
  have hr := fun s hs c => stands_room2 d a s h0 hs c
  unfold nextK stepP
  by_cases c1 : standsB d a ⟨#[60, 33, 45, 45]⟩ = true
  · rw [if_pos c1, if_pos c1]
    have := hr _ (by decide) c1
    rw [show ((⟨#[60, 33, 45, 45]⟩ : ByteArray).size : Int) = 4 from rfl] at this
    exact comment_c w h hG (by omega) (by omega) h0 this
  rw [if_neg c1, if_neg c1]
  by_cases c2 : standsB d a ⟨#[60, 33, 91, 67, 68, 65, 84, 65, 91]⟩ = true
  · rw [if_pos c2, if_pos c2]
    have := hr _ (by decide) c2
    rw [show ((⟨#[60, 33, 91, 67, 68, 65, 84, 65, 91]⟩ : ByteArray).size : Int) = 9 from rfl] at this
    exact plain_c w h hG (by omega) (by omega) h0 this
  rw [if_neg c2, if_neg c2]
  by_cases c3 : standsB d a ⟨#[60, 47]⟩ = true
  · rw [if_pos c3, if_pos c3]
    have := hr _ (by decide) c3
    rw [show ((⟨#[60, 47]⟩ : ByteArray).size : Int) = 2 from rfl] at this
    exact closing_c w h (by omega) (by omega) h0 this
  rw [if_neg c3, if_neg c3]
  by_cases c4 : standsB d a ⟨#[60]⟩ = true
  · rw [if_pos c4, if_pos c4]
    exact tag_c w h hG hl (by omega) h0 (by omega)
  rw [if_neg c4, if_neg c4]
  exact text_c w h hG (by omega) (by omega) h0 (by omega)
theorem enters_next (d : ByteArray) (p : Int) (a : Array Value) (w : World) : Sem.run Try.prog (callFunc (nextK d p) a) w = .ok (.enter (nextK d p) a) w := by
  obtain ⟨e1, e2, e3, e4, e5⟩ := enters5
  unfold nextK
  split
  · exact e1 a w
  · split
    · exact e2 a w
    · split
      · exact e3 a w
      · split
        · exact e4 a w
        · exact e5 a w
set_option maxHeartbeats 16000000 in
set_option maxRecDepth 100000 in
theorem lex_c (w : World) (hG : G w) (d : ByteArray) (hs : d.size ≤ 4294967280) :
    Calls Try.prog 39 #[.string d] w fun e w' => ∃ v, e = .returned (.tuple #[v, .int .i64 (lexV d).2]) ∧ Kd.R k46 46 w' w.heap.size (fun _ => True) v (lexV d).1 ∧ Below w.heap.size w w' := by
  obtain ⟨V, hV⟩ : ∃ V, lexV d = V := ⟨_, rfl⟩
  rw [hV]
  unfold lexV at hV
  by_cases c1 : (65536 : Int) < (d.size : Int)
  · rw [if_pos c1] at hV
    subst hV
    have b1 : decide ((65536 : Int) < (d.size : Int)) = true := decide_eq_true c1
    have b2 := eq_true c1
    go_enter Try.func39, Try.ntmps39
    go_wp2
    first | go_ret | go_ret2 | go_ret3
    exact ⟨_, rfl, Kd.R_nil _ _ _ _ _, by repeat (first | exact Below.refl _ _ | apply pw_below_drewN | apply below_drew | apply below_alloc)⟩
  rw [if_neg c1] at hV
  have b1 : decide ((65536 : Int) < (d.size : Int)) = false := decide_eq_false c1
  have b2 := eq_false c1
  have hsz : d.size ≤ 65536 := by omega
  clear c1
  have hVa : ∀ W, Calls Try.prog 28 #[.string d] W fun e w' => e = .returned (.bool (validL d.data.toList)) ∧ Below W.heap.size W w' := fun W => chars_Valid.calls (d.size + 2 + 0) d _ W (valid_f d (by omega) 0)
  obtain ⟨q, hq⟩ : ∃ q, validL d.data.toList = q := ⟨_, rfl⟩
  rw [hq] at hVa hV
  cases q with
  | false =>
    rw [if_pos rfl] at hV
    subst hV
    go_enter Try.func39, Try.ntmps39
    go_wp2_with (go_at_call 28; (with_reducible refine (hVa _).mono ?_); rintro e w1 ⟨rfl, hb1⟩)
    first | go_ret | go_ret2 | go_ret3
    exact ⟨_, rfl, Kd.R_nil _ _ _ _ _, by repeat (first | exact hb1 | exact Below.refl _ _ | apply pw_below_drewN | apply below_drew | apply below_alloc)⟩
  | true =>
    rw [if_neg (by decide)] at hV
    have hNE := enters_next d
    have hT : LexRel d (lexO d) 0 [] := ⟨by omega, by omega, by simp, ⟨d.size + 1, by omega, rfl⟩⟩
    have HT := Lib.hid hT
    clear hT
    go_enter Try.func39, Try.ntmps39
    go_wp2_with (go_at_call 28; (with_reducible refine (hVa _).mono ?_); rintro e w1 ⟨rfl, hb1⟩)
    have hB1 : Below w.heap.size w w1 := by repeat (first | exact hb1 | apply pw_below_drewN | apply below_drew)
    have HI := Lib.hid (Rd.new w w1 d hB1)
    obtain ⟨g, hg⟩ : ∃ g, w1.heap.size = g := ⟨_, rfl⟩
    rw [hg] at HI ⊢
    clear hb1 hB1
    go_loopw [5] (fun t wr => (Hid (lexO d = none) ∧ ∃ p ts', Hid (Rd w wr g d p ts' true)) ∨ (∃ p acc, Hid (LexRel d (lexO d) p acc) ∧ Hid (Rd w wr g d p acc false))) (fun t wr => ahead d g wr)
    case atStart => exact .inr ⟨_, _, HT, HI⟩
    case round =>
      clear HI HT
      rcases hrel with ⟨hPn, p, ts', HR⟩ | ⟨p, acc, hRel, HR⟩
      · have hc3 := HR.out.c3
        have hc1 := HR.out.c1
        rw [hPn.out] at hV
        have hV' : ([], 15) = V := hV
        subst hV'
        obtain ⟨bb, l1⟩ : ∃ bb, decide (p < (d.size : Int)) = bb := ⟨_, rfl⟩
        cases bb
        all_goals
          go_wp2
          first | go_ret | go_ret2 | go_ret3
          exact ⟨_, rfl, Kd.R_nil _ _ _ _ _, by first | exact HR.out.bel | exact (HR.out.drewN _).bel | exact HR.out.drew.bel⟩
      · have hmeas := Lib.hid HR.out.ahead_
        obtain ⟨r1, r2, r3, n, hn, hPn⟩ := hRel.out
        have hc3 := HR.out.c3
        have hc1 := HR.out.c1
        cases n with
        | zero => omega
        | succ n =>
        unfold lexF at hPn
        by_cases hlt : p < (d.size : Int)
        · rw [if_pos hlt] at hPn
          have l1 : decide (p < (d.size : Int)) = true := decide_eq_true hlt
          have l2 := eq_true hlt
          obtain ⟨K, hK⟩ : ∃ K, nextK d p = K := ⟨_, rfl⟩
          have hNx : ∀ W, Rd w W g d p acc false → Calls Try.prog 60 #[.pointer (some ⟨g, 0, none⟩)] W fun e w' => e = .returned (.func (.func K) #[.pointer (some ⟨g, 0, none⟩)] #[]) ∧ Below W.heap.size W w' := fun W h => by rw [← hK]; exact next_c W h r1
          have hGo : ∀ W, Rd w W g d p acc false → Calls Try.prog K #[.pointer (some ⟨g, 0, none⟩)] W fun e w' => e = .returned (.tuple #[]) ∧ Step w w' g d acc (stepP d p) := fun W h => by rw [← hK]; exact goes_on W h hG (by omega) hsz r1 hlt
          have hEn : ∀ (a : Array Value) (w : World), Sem.run Try.prog (callFunc K a) w = .ok (.enter K a) w := fun a w => by rw [← hK]; exact enters_next d p a w
          go_wp2_with (go_at_call 60; (with_reducible refine (hNx _ (by first | exact HR.out | exact HR.out.drewN _)).mono ?_); rintro e w3 ⟨rfl, hb_⟩; have H3 := Lib.hid (show Rd w w3 g d p acc false from by first | exact HR.out.below hb_ | exact (HR.out.drewN _).below hb_); clear hb_)
          go_wp2_with ((with_reducible refine (hGo _ (by first | exact H3.out | exact H3.out.drewN _)).mono ?_); rintro e w4 ⟨rfl, ht⟩)
          cases hS : stepP d p with
          | none =>
            rw [hS] at ht hPn
            obtain ⟨a', ts', ht⟩ := ht
            have HA := Lib.hid ht
            have HP := Lib.hid hPn
            clear ht hPn hV
            go_wp2
            go_roundw
            case rel => first | exact .inl ⟨HP, _, _, HA⟩ | exact .inl ⟨_, _, HA⟩
            case measure => rw [hmeas.out, HA.out.ahead_]; simp only [Bool.false_eq_true, if_false, if_true]; omega
          | some v =>
            obtain ⟨new, a'⟩ := v
            rw [hS] at ht hPn
            have hroom := step_room d p r1 hlt new a' hS
            have HA := Lib.hid (show Rd w w4 g d a' (acc ++ new) false from ht)
            have HP := Lib.hid hPn
            clear ht hPn hV
            go_wp2
            go_roundw
            case rel => exact .inr ⟨_, _, Lib.hid ⟨by omega, hroom.2.1, by rw [List.length_append]; omega, ⟨n, by omega, HP.out⟩⟩, HA⟩
            case measure => rw [hmeas.out, HA.out.ahead_]; simp only [Bool.false_eq_true, if_false, if_true]; omega
        · rw [if_neg hlt] at hPn
          have l1 : decide (p < (d.size : Int)) = false := decide_eq_false hlt
          have l2 := eq_false hlt
          rw [hPn] at hV
          have hV' : (acc, 0) = V := hV
          subst hV'
          obtain ⟨v, h1, h2, h3, h4⟩ := HR.out
          obtain ⟨A, c, rfl, -, -⟩ := Kd.R_reads h3
          have hc2 : wr.cell? ⟨g, 2, none⟩ = some (.slice A acc.length c) := (blk_cell h1 2).trans rfl
          have H5 := Lib.hid h3
          have H6 := Lib.hid h4
          clear h1 h3 h4
          go_wp2
          first | go_ret | go_ret2 | go_ret3
          exact ⟨_, rfl, Kd.R_mono (by first | exact H5.out | exact Kd.R_drewN H5.out _ | exact Kd.R_drew H5.out) (fun _ _ => trivial), by first | exact H6.out | exact pw_below_drewN H6.out _⟩
def lexer_Lex.f (a0 : ByteArray) : Option (List Tok × Int) := if a0.size ≤ 4294967280 then some (lexV a0) else none
theorem lexer_Lex.calls (a0 : ByteArray) (r1 : List Tok) (r2 : Int) (w : World) (hG : G w) (h : lexer_Lex.f a0 = some (r1, r2)) :
    Calls Try.prog 39 #[.string a0] w fun e w' => ∃ v0_ : Value, e = .returned (.tuple #[v0_, .int .i64 r2]) ∧ Kd.R k46 46 w' w.heap.size (fun _ => True) v0_ r1 ∧ Below w.heap.size w w' := by
  unfold lexer_Lex.f at h
  split at h
  · rename_i hs
    have h := Option.some.inj h
    have h1 : r1 = (lexV a0).1 := by rw [h]
    have h2 : r2 = (lexV a0).2 := by rw [h]
    subst h1 h2
    exact lex_c w hG a0 hs
  · cases h
end Go.Proofs.Ytekkaoenabjeiaa.X
end
section
namespace Go.Proofs.Ytekkaoenabjeiaa.X
end Go.Proofs.Ytekkaoenabjeiaa.X
namespace Go.Proofs.Ytekkaoenabjeiaa.Q
open Go.RowKit Go.Proofs.YtekkaoenabjeiaaW.PrintWords Go.Proofs.YtekkaoenabjeiaaW.PrintLast Go.Proofs.YtekkaoenabjeiaaW.PrintMore
attribute [local go_sem] max2_int min2_int max_two min_two max_three min_three max_four min_four   
open Go.Proofs.Ytekkaoenabjeiaa.X
set_option linter.unusedVariables false
set_option linter.unusedSimpArgs false
def topiarylaw12_awake.f  : Option (Bool) := (lexer_Lex.f (⟨#[60, 97, 32, 98, 61, 39, 49, 39, 62, 120, 38, 97, 109, 112, 59, 121, 60, 47, 97, 62]⟩ : ByteArray)).bind fun bt228 => ((lexer_Lex.f (⟨#[60, 97, 32, 98, 62]⟩ : ByteArray)).bind fun bt232 => (if bt228.2 = 0 then (if bt232.2 = 15 then (if (bt228.1.length : Int) = 5 then (if 0 < (bt228.1.length : Int) then (if ((rd_T46 bt228.1 0).f0) = 1 then (if 1 < (bt228.1.length : Int) then (if ((rd_T46 bt228.1 1).f3).toList = ([98] : List UInt8) then (if ((rd_T46 bt228.1 1).f4).toList = ([49] : List UInt8) then (if 2 < (bt228.1.length : Int) then (if ((rd_T46 bt228.1 2).f0) = 3 then (if 3 < (bt228.1.length : Int) then (if ((rd_T46 bt228.1 3).f4).toList = ([120, 38, 121] : List UInt8) then (if 4 < (bt228.1.length : Int) then (if ((rd_T46 bt228.1 4).f0) = 5 then (some (((rd_T46 bt228.1 4).f3).toList == ([97] : List UInt8))) else (some false)) else (none)) else (some false)) else (none)) else (some false)) else (none)) else (some false)) else (some false)) else (none)) else (some false)) else (none)) else (some false)) else (some false)) else (some false)))
set_option maxHeartbeats 8000000 in
set_option maxRecDepth 100000 in
theorem topiarylaw12_awake.calls  (r : Bool) (w : World) (hG : G w) (h : topiarylaw12_awake.f  = some r) :
    Calls Try.prog 37 #[] w fun e w' => e = .returned (.bool r) ∧ Below w.heap.size w w' := by
  have HB := Aside0.mk (Below.refl w.heap.size w)
  have H : ((lexer_Lex.f (⟨#[60, 97, 32, 98, 61, 39, 49, 39, 62, 120, 38, 97, 109, 112, 59, 121, 60, 47, 97, 62]⟩ : ByteArray)).bind fun bt228 => ((lexer_Lex.f (⟨#[60, 97, 32, 98, 62]⟩ : ByteArray)).bind fun bt232 => (if bt228.2 = 0 then (if bt232.2 = 15 then (if (bt228.1.length : Int) = 5 then (if 0 < (bt228.1.length : Int) then (if ((rd_T46 bt228.1 0).f0) = 1 then (if 1 < (bt228.1.length : Int) then (if ((rd_T46 bt228.1 1).f3).toList = ([98] : List UInt8) then (if ((rd_T46 bt228.1 1).f4).toList = ([49] : List UInt8) then (if 2 < (bt228.1.length : Int) then (if ((rd_T46 bt228.1 2).f0) = 3 then (if 3 < (bt228.1.length : Int) then (if ((rd_T46 bt228.1 3).f4).toList = ([120, 38, 121] : List UInt8) then (if 4 < (bt228.1.length : Int) then (if ((rd_T46 bt228.1 4).f0) = 5 then (some (((rd_T46 bt228.1 4).f3).toList == ([97] : List UInt8))) else (some false)) else (none)) else (some false)) else (none)) else (some false)) else (none)) else (some false)) else (some false)) else (none)) else (some false)) else (none)) else (some false)) else (some false)) else (some false)))) = some r := h
  clear h
  replace H := Option.bind_eq_some_iff.mp H
  obtain ⟨⟨t228, t229⟩, A10, H⟩ := H
  replace H : ((lexer_Lex.f (⟨#[60, 97, 32, 98, 62]⟩ : ByteArray)).bind fun bt232 => (if t229 = 0 then (if bt232.2 = 15 then (if (t228.length : Int) = 5 then (if 0 < (t228.length : Int) then (if ((rd_T46 t228 0).f0) = 1 then (if 1 < (t228.length : Int) then (if ((rd_T46 t228 1).f3).toList = ([98] : List UInt8) then (if ((rd_T46 t228 1).f4).toList = ([49] : List UInt8) then (if 2 < (t228.length : Int) then (if ((rd_T46 t228 2).f0) = 3 then (if 3 < (t228.length : Int) then (if ((rd_T46 t228 3).f4).toList = ([120, 38, 121] : List UInt8) then (if 4 < (t228.length : Int) then (if ((rd_T46 t228 4).f0) = 5 then (some (((rd_T46 t228 4).f3).toList == ([97] : List UInt8))) else (some false)) else (none)) else (some false)) else (none)) else (some false)) else (none)) else (some false)) else (some false)) else (none)) else (some false)) else (none)) else (some false)) else (some false)) else (some false))) = some r := H
  have A1 := Aside0.mk A10
  clear A10
  replace H := Option.bind_eq_some_iff.mp H
  obtain ⟨⟨t232, t233⟩, A20, H⟩ := H
  replace H : (if t229 = 0 then (if t233 = 15 then (if (t228.length : Int) = 5 then (if 0 < (t228.length : Int) then (if ((rd_T46 t228 0).f0) = 1 then (if 1 < (t228.length : Int) then (if ((rd_T46 t228 1).f3).toList = ([98] : List UInt8) then (if ((rd_T46 t228 1).f4).toList = ([49] : List UInt8) then (if 2 < (t228.length : Int) then (if ((rd_T46 t228 2).f0) = 3 then (if 3 < (t228.length : Int) then (if ((rd_T46 t228 3).f4).toList = ([120, 38, 121] : List UInt8) then (if 4 < (t228.length : Int) then (if ((rd_T46 t228 4).f0) = 5 then (some (((rd_T46 t228 4).f3).toList == ([97] : List UInt8))) else (some false)) else (none)) else (some false)) else (none)) else (some false)) else (none)) else (some false)) else (some false)) else (none)) else (some false)) else (none)) else (some false)) else (some false)) else (some false)) = some r := H
  have A2 := Aside0.mk A20
  clear A20
  by_cases c3 : t229 = 0
  · rw [if_pos c3] at H
    have c3b0 : (t229 == 0) = true := beq_iff_eq.mpr c3
    have c3b1 : (t229 != 0) = false := bne_eq_false_iff_eq.mpr c3
    clear c3
    by_cases c4 : t233 = 15
    · rw [if_pos c4] at H
      have c4b0 : (t233 == 15) = true := beq_iff_eq.mpr c4
      have c4b1 : (t233 != 15) = false := bne_eq_false_iff_eq.mpr c4
      clear c4
      by_cases c5 : (t228.length : Int) = 5
      · rw [if_pos c5] at H
        have c5b0 : ((t228.length : Int) == 5) = true := beq_iff_eq.mpr c5
        have c5b1 : ((t228.length : Int) != 5) = false := bne_eq_false_iff_eq.mpr c5
        clear c5
        by_cases c6 : 0 < (t228.length : Int)
        · rw [if_pos c6] at H
          have c6b0 : decide (0 < (t228.length : Int)) = true := decide_eq_true c6
          have c6b1 : decide (0 < t228.length) = true := decide_eq_true (by omega)
          clear c6
          by_cases c7 : ((rd_T46 t228 0).f0) = 1
          · rw [if_pos c7] at H
            have c7b0 : (((rd_T46 t228 0).f0) == 1) = true := beq_iff_eq.mpr c7
            have c7b1 : (((rd_T46 t228 0).f0) != 1) = false := bne_eq_false_iff_eq.mpr c7
            clear c7
            by_cases c8 : 1 < (t228.length : Int)
            · rw [if_pos c8] at H
              have c8b0 : decide (1 < (t228.length : Int)) = true := decide_eq_true c8
              have c8b1 : decide (1 < t228.length) = true := decide_eq_true (by omega)
              clear c8
              by_cases c9 : ((rd_T46 t228 1).f3).toList = ([98] : List UInt8)
              · rw [if_pos c9] at H
                have c9b0 : (((rd_T46 t228 1).f3).toList == ([98] : List UInt8)) = true := beq_iff_eq.mpr c9
                have c9b1 : (((rd_T46 t228 1).f3).toList != ([98] : List UInt8)) = false := bne_eq_false_iff_eq.mpr c9
                clear c9
                by_cases c10 : ((rd_T46 t228 1).f4).toList = ([49] : List UInt8)
                · rw [if_pos c10] at H
                  have c10b0 : (((rd_T46 t228 1).f4).toList == ([49] : List UInt8)) = true := beq_iff_eq.mpr c10
                  have c10b1 : (((rd_T46 t228 1).f4).toList != ([49] : List UInt8)) = false := bne_eq_false_iff_eq.mpr c10
                  clear c10
                  by_cases c11 : 2 < (t228.length : Int)
                  · rw [if_pos c11] at H
                    have c11b0 : decide (2 < (t228.length : Int)) = true := decide_eq_true c11
                    have c11b1 : decide (2 < t228.length) = true := decide_eq_true (by omega)
                    clear c11
                    by_cases c12 : ((rd_T46 t228 2).f0) = 3
                    · rw [if_pos c12] at H
                      have c12b0 : (((rd_T46 t228 2).f0) == 3) = true := beq_iff_eq.mpr c12
                      have c12b1 : (((rd_T46 t228 2).f0) != 3) = false := bne_eq_false_iff_eq.mpr c12
                      clear c12
                      by_cases c13 : 3 < (t228.length : Int)
                      · rw [if_pos c13] at H
                        have c13b0 : decide (3 < (t228.length : Int)) = true := decide_eq_true c13
                        have c13b1 : decide (3 < t228.length) = true := decide_eq_true (by omega)
                        clear c13
                        by_cases c14 : ((rd_T46 t228 3).f4).toList = ([120, 38, 121] : List UInt8)
                        · rw [if_pos c14] at H
                          have c14b0 : (((rd_T46 t228 3).f4).toList == ([120, 38, 121] : List UInt8)) = true := beq_iff_eq.mpr c14
                          have c14b1 : (((rd_T46 t228 3).f4).toList != ([120, 38, 121] : List UInt8)) = false := bne_eq_false_iff_eq.mpr c14
                          clear c14
                          by_cases c15 : 4 < (t228.length : Int)
                          · rw [if_pos c15] at H
                            have c15b0 : decide (4 < (t228.length : Int)) = true := decide_eq_true c15
                            have c15b1 : decide (4 < t228.length) = true := decide_eq_true (by omega)
                            clear c15
                            by_cases c16 : ((rd_T46 t228 4).f0) = 5
                            · rw [if_pos c16] at H
                              have c16b0 : (((rd_T46 t228 4).f0) == 5) = true := beq_iff_eq.mpr c16
                              have c16b1 : (((rd_T46 t228 4).f0) != 5) = false := bne_eq_false_iff_eq.mpr c16
                              clear c16
                              obtain rfl := Option.some.inj H
                              go_enter Try.func37, Try.ntmps37
                              go_wp2_with (first | ((with_reducible refine gate_callee (f := 39) rfl ?_); refine goesL_ (some 6) rfl rfl Try.func39 (by kernel_rfl) rfl #[.string (⟨#[60, 97, 32, 98, 61, 39, 49, 39, 62, 120, 38, 97, 109, 112, 59, 121, 60, 47, 97, 62]⟩ : ByteArray)] rfl (by (try simp only [List.map_toArray, List.map_cons, List.map_nil]); first | done | rfl | (simp only [List.length_drop, List.length_take]; rfl)) ?_; (with_reducible refine (lexer_Lex.calls (⟨#[60, 97, 32, 98, 61, 39, 49, 39, 62, 120, 38, 97, 109, 112, 59, 121, 60, 47, 97, 62]⟩ : ByteArray) t228 t229 _ (by first | exact hG | exact G.below hG (by repeat (first | (with_reducible first | exact HB.out | apply below_alloc | apply pw_below_drewN | apply below_drew1) | exact HB.out))) A1.out).mono ?_); rintro e w17 ⟨v230, rfl, ho0, hb⟩; refine ⟨_, rfl, ?_⟩; have n0_ := Aside0.mk (Kd.R_lower ho0 (below_size (by repeat (first | (with_reducible first | exact HB.out | apply below_alloc | apply pw_below_drewN | apply below_drew1) | exact HB.out)))); have n1_ := Aside0.mk (below_step (by repeat (first | (with_reducible first | exact HB.out | apply below_alloc | apply pw_below_drewN | apply below_drew1) | exact HB.out)) hb); clear HB; have HO231 := n0_; have HB := n1_; clear n0_ n1_; (try clear hb); (try clear hb2); (try clear hk); (try clear hi); (try clear ho0)) | ((with_reducible refine gate_callee (f := 39) rfl ?_); refine goesL_ (some 10) rfl rfl Try.func39 (by kernel_rfl) rfl #[.string (⟨#[60, 97, 32, 98, 62]⟩ : ByteArray)] rfl (by (try simp only [List.map_toArray, List.map_cons, List.map_nil]); first | done | rfl | (simp only [List.length_drop, List.length_take]; rfl)) ?_; (with_reducible refine (lexer_Lex.calls (⟨#[60, 97, 32, 98, 62]⟩ : ByteArray) t232 t233 _ (by first | exact hG | exact G.below hG (by repeat (first | (with_reducible first | exact HB.out | apply below_alloc | apply pw_below_drewN | apply below_drew1) | exact HB.out))) A2.out).mono ?_); rintro e w18 ⟨v234, rfl, ho0, hb⟩; refine ⟨_, rfl, ?_⟩; have n0_ := Aside0.mk (Kd.R_elder' (by (with_reducible repeat (first | apply Kd.R_alloc | apply Kd.R_drewN | apply Kd.R_drew)); exact HO231.out) (Kd.R_base ho0) hb); have n1_ := Aside0.mk (Kd.R_lower (Kd.R_new' ho0 (Kd.R_lt (by (with_reducible repeat (first | apply Kd.R_alloc | apply Kd.R_drewN | apply Kd.R_drew)); exact HO231.out))) (below_size (by repeat (first | (with_reducible first | exact HB.out | apply below_alloc | apply pw_below_drewN | apply below_drew1) | exact HB.out)))); have n2_ := Aside0.mk (below_step (by repeat (first | (with_reducible first | exact HB.out | apply below_alloc | apply pw_below_drewN | apply below_drew1) | exact HB.out)) hb); clear HO231; clear HB; have HO231 := n0_; have HO235 := n1_; have HB := n2_; clear n0_ n1_ n2_; (try clear hb); (try clear hb2); (try clear hk); (try clear hi); (try clear ho0); obtain ⟨Ao19, co19, eo19⟩ := Kd.R_slice HO231.out; subst eo19; have p236 : 0 ≤ (0 : Int) := (by omega); have q236 : 0 < (t228.length : Int) := of_decide_eq_true (by first | (with_reducible assumption) | assumption); obtain ⟨ad236, e236, hx236_0, hx236_1, hx236_2, hx236_3, hx236_4⟩ := at_T46 (Kd.R_reads' HO231.out).2.2 0 p236 q236; cases e236; have qi236 : (0 < t228.length) = True := eq_true (by omega); (try rw [show ((0 : Int)).toNat = 0 from rfl] at hx236_0); (try rw [show 0 * 5 = 0 from rfl] at hx236_0); (try rw [Addr.add_zero'] at hx236_0); (try rw [show ((0 : Int)).toNat = 0 from rfl] at hx236_1); (try rw [show 0 * 5 = 0 from rfl] at hx236_1); (try rw [Addr.add_zero'] at hx236_1); (try rw [show ((0 : Int)).toNat = 0 from rfl] at hx236_2); (try rw [show 0 * 5 = 0 from rfl] at hx236_2); (try rw [Addr.add_zero'] at hx236_2); (try rw [show ((0 : Int)).toNat = 0 from rfl] at hx236_3); (try rw [show 0 * 5 = 0 from rfl] at hx236_3); (try rw [Addr.add_zero'] at hx236_3); (try rw [show ((0 : Int)).toNat = 0 from rfl] at hx236_4); (try rw [show 0 * 5 = 0 from rfl] at hx236_4); (try rw [Addr.add_zero'] at hx236_4); replace p236 := eq_true p236; replace q236 := eq_true q236; have p237 : 0 ≤ (1 : Int) := (by omega); have q237 : 1 < (t228.length : Int) := of_decide_eq_true (by first | (with_reducible assumption) | assumption); obtain ⟨ad237, e237, hx237_0, hx237_1, hx237_2, hx237_3, hx237_4⟩ := at_T46 (Kd.R_reads' HO231.out).2.2 1 p237 q237; obtain rfl : ad236 = ad237 := (by injection e237); (try simp only [show (1 : Int).toNat = 1 from rfl, Nat.reduceMul, Nat.reduceEqDiff, Go.Addr.add, ↓reduceIte] at hx237_0); (try simp only [show (1 : Int).toNat = 1 from rfl, Nat.reduceMul, Nat.reduceEqDiff, Go.Addr.add, ↓reduceIte] at hx237_1); (try simp only [show (1 : Int).toNat = 1 from rfl, Nat.reduceMul, Nat.reduceEqDiff, Go.Addr.add, ↓reduceIte] at hx237_2); (try simp only [show (1 : Int).toNat = 1 from rfl, Nat.reduceMul, Nat.reduceEqDiff, Go.Addr.add, ↓reduceIte] at hx237_3); (try simp only [show (1 : Int).toNat = 1 from rfl, Nat.reduceMul, Nat.reduceEqDiff, Go.Addr.add, ↓reduceIte] at hx237_4); have qi237 : (1 < t228.length) = True := eq_true (by omega); (try rw [show ((1 : Int)).toNat = 1 from rfl] at hx237_0); (try rw [show 1 * 5 = 5 from rfl] at hx237_0); (try rw [show ((1 : Int)).toNat = 1 from rfl] at hx237_1); (try rw [show 1 * 5 = 5 from rfl] at hx237_1); (try rw [show ((1 : Int)).toNat = 1 from rfl] at hx237_2); (try rw [show 1 * 5 = 5 from rfl] at hx237_2); (try rw [show ((1 : Int)).toNat = 1 from rfl] at hx237_3); (try rw [show 1 * 5 = 5 from rfl] at hx237_3); (try rw [show ((1 : Int)).toNat = 1 from rfl] at hx237_4); (try rw [show 1 * 5 = 5 from rfl] at hx237_4); replace p237 := eq_true p237; replace q237 := eq_true q237; have p238 : 0 ≤ (1 : Int) := (by omega); have q238 : 1 < (t228.length : Int) := of_decide_eq_true (by first | (with_reducible assumption) | assumption); obtain ⟨ad238, e238, hx238_0, hx238_1, hx238_2, hx238_3, hx238_4⟩ := at_T46 (Kd.R_reads' HO231.out).2.2 1 p238 q238; obtain rfl : ad236 = ad238 := (by injection e238); (try simp only [show (1 : Int).toNat = 1 from rfl, Nat.reduceMul, Nat.reduceEqDiff, Go.Addr.add, ↓reduceIte] at hx238_0); (try simp only [show (1 : Int).toNat = 1 from rfl, Nat.reduceMul, Nat.reduceEqDiff, Go.Addr.add, ↓reduceIte] at hx238_1); (try simp only [show (1 : Int).toNat = 1 from rfl, Nat.reduceMul, Nat.reduceEqDiff, Go.Addr.add, ↓reduceIte] at hx238_2); (try simp only [show (1 : Int).toNat = 1 from rfl, Nat.reduceMul, Nat.reduceEqDiff, Go.Addr.add, ↓reduceIte] at hx238_3); (try simp only [show (1 : Int).toNat = 1 from rfl, Nat.reduceMul, Nat.reduceEqDiff, Go.Addr.add, ↓reduceIte] at hx238_4); have qi238 : (1 < t228.length) = True := eq_true (by omega); (try rw [show ((1 : Int)).toNat = 1 from rfl] at hx238_0); (try rw [show 1 * 5 = 5 from rfl] at hx238_0); (try rw [show ((1 : Int)).toNat = 1 from rfl] at hx238_1); (try rw [show 1 * 5 = 5 from rfl] at hx238_1); (try rw [show ((1 : Int)).toNat = 1 from rfl] at hx238_2); (try rw [show 1 * 5 = 5 from rfl] at hx238_2); (try rw [show ((1 : Int)).toNat = 1 from rfl] at hx238_3); (try rw [show 1 * 5 = 5 from rfl] at hx238_3); (try rw [show ((1 : Int)).toNat = 1 from rfl] at hx238_4); (try rw [show 1 * 5 = 5 from rfl] at hx238_4); replace p238 := eq_true p238; replace q238 := eq_true q238; have p239 : 0 ≤ (2 : Int) := (by omega); have q239 : 2 < (t228.length : Int) := of_decide_eq_true (by first | (with_reducible assumption) | assumption); obtain ⟨ad239, e239, hx239_0, hx239_1, hx239_2, hx239_3, hx239_4⟩ := at_T46 (Kd.R_reads' HO231.out).2.2 2 p239 q239; obtain rfl : ad236 = ad239 := (by injection e239); (try simp only [show (2 : Int).toNat = 2 from rfl, Nat.reduceMul, Nat.reduceEqDiff, Go.Addr.add, ↓reduceIte] at hx239_0); (try simp only [show (2 : Int).toNat = 2 from rfl, Nat.reduceMul, Nat.reduceEqDiff, Go.Addr.add, ↓reduceIte] at hx239_1); (try simp only [show (2 : Int).toNat = 2 from rfl, Nat.reduceMul, Nat.reduceEqDiff, Go.Addr.add, ↓reduceIte] at hx239_2); (try simp only [show (2 : Int).toNat = 2 from rfl, Nat.reduceMul, Nat.reduceEqDiff, Go.Addr.add, ↓reduceIte] at hx239_3); (try simp only [show (2 : Int).toNat = 2 from rfl, Nat.reduceMul, Nat.reduceEqDiff, Go.Addr.add, ↓reduceIte] at hx239_4); have qi239 : (2 < t228.length) = True := eq_true (by omega); (try rw [show ((2 : Int)).toNat = 2 from rfl] at hx239_0); (try rw [show 2 * 5 = 10 from rfl] at hx239_0); (try rw [show ((2 : Int)).toNat = 2 from rfl] at hx239_1); (try rw [show 2 * 5 = 10 from rfl] at hx239_1); (try rw [show ((2 : Int)).toNat = 2 from rfl] at hx239_2); (try rw [show 2 * 5 = 10 from rfl] at hx239_2); (try rw [show ((2 : Int)).toNat = 2 from rfl] at hx239_3); (try rw [show 2 * 5 = 10 from rfl] at hx239_3); (try rw [show ((2 : Int)).toNat = 2 from rfl] at hx239_4); (try rw [show 2 * 5 = 10 from rfl] at hx239_4); replace p239 := eq_true p239; replace q239 := eq_true q239; have p240 : 0 ≤ (3 : Int) := (by omega); have q240 : 3 < (t228.length : Int) := of_decide_eq_true (by first | (with_reducible assumption) | assumption); obtain ⟨ad240, e240, hx240_0, hx240_1, hx240_2, hx240_3, hx240_4⟩ := at_T46 (Kd.R_reads' HO231.out).2.2 3 p240 q240; obtain rfl : ad236 = ad240 := (by injection e240); (try simp only [show (3 : Int).toNat = 3 from rfl, Nat.reduceMul, Nat.reduceEqDiff, Go.Addr.add, ↓reduceIte] at hx240_0); (try simp only [show (3 : Int).toNat = 3 from rfl, Nat.reduceMul, Nat.reduceEqDiff, Go.Addr.add, ↓reduceIte] at hx240_1); (try simp only [show (3 : Int).toNat = 3 from rfl, Nat.reduceMul, Nat.reduceEqDiff, Go.Addr.add, ↓reduceIte] at hx240_2); (try simp only [show (3 : Int).toNat = 3 from rfl, Nat.reduceMul, Nat.reduceEqDiff, Go.Addr.add, ↓reduceIte] at hx240_3); (try simp only [show (3 : Int).toNat = 3 from rfl, Nat.reduceMul, Nat.reduceEqDiff, Go.Addr.add, ↓reduceIte] at hx240_4); have qi240 : (3 < t228.length) = True := eq_true (by omega); (try rw [show ((3 : Int)).toNat = 3 from rfl] at hx240_0); (try rw [show 3 * 5 = 15 from rfl] at hx240_0); (try rw [show ((3 : Int)).toNat = 3 from rfl] at hx240_1); (try rw [show 3 * 5 = 15 from rfl] at hx240_1); (try rw [show ((3 : Int)).toNat = 3 from rfl] at hx240_2); (try rw [show 3 * 5 = 15 from rfl] at hx240_2); (try rw [show ((3 : Int)).toNat = 3 from rfl] at hx240_3); (try rw [show 3 * 5 = 15 from rfl] at hx240_3); (try rw [show ((3 : Int)).toNat = 3 from rfl] at hx240_4); (try rw [show 3 * 5 = 15 from rfl] at hx240_4); replace p240 := eq_true p240; replace q240 := eq_true q240; have p241 : 0 ≤ (4 : Int) := (by omega); have q241 : 4 < (t228.length : Int) := of_decide_eq_true (by first | (with_reducible assumption) | assumption); obtain ⟨ad241, e241, hx241_0, hx241_1, hx241_2, hx241_3, hx241_4⟩ := at_T46 (Kd.R_reads' HO231.out).2.2 4 p241 q241; obtain rfl : ad236 = ad241 := (by injection e241); (try simp only [show (4 : Int).toNat = 4 from rfl, Nat.reduceMul, Nat.reduceEqDiff, Go.Addr.add, ↓reduceIte] at hx241_0); (try simp only [show (4 : Int).toNat = 4 from rfl, Nat.reduceMul, Nat.reduceEqDiff, Go.Addr.add, ↓reduceIte] at hx241_1); (try simp only [show (4 : Int).toNat = 4 from rfl, Nat.reduceMul, Nat.reduceEqDiff, Go.Addr.add, ↓reduceIte] at hx241_2); (try simp only [show (4 : Int).toNat = 4 from rfl, Nat.reduceMul, Nat.reduceEqDiff, Go.Addr.add, ↓reduceIte] at hx241_3); (try simp only [show (4 : Int).toNat = 4 from rfl, Nat.reduceMul, Nat.reduceEqDiff, Go.Addr.add, ↓reduceIte] at hx241_4); have qi241 : (4 < t228.length) = True := eq_true (by omega); (try rw [show ((4 : Int)).toNat = 4 from rfl] at hx241_0); (try rw [show 4 * 5 = 20 from rfl] at hx241_0); (try rw [show ((4 : Int)).toNat = 4 from rfl] at hx241_1); (try rw [show 4 * 5 = 20 from rfl] at hx241_1); (try rw [show ((4 : Int)).toNat = 4 from rfl] at hx241_2); (try rw [show 4 * 5 = 20 from rfl] at hx241_2); (try rw [show ((4 : Int)).toNat = 4 from rfl] at hx241_3); (try rw [show 4 * 5 = 20 from rfl] at hx241_3); (try rw [show ((4 : Int)).toNat = 4 from rfl] at hx241_4); (try rw [show 4 * 5 = 20 from rfl] at hx241_4); replace p241 := eq_true p241; replace q241 := eq_true q241; have p242 : 0 ≤ (4 : Int) := (by omega); have q242 : 4 < (t228.length : Int) := of_decide_eq_true (by first | (with_reducible assumption) | assumption); obtain ⟨ad242, e242, hx242_0, hx242_1, hx242_2, hx242_3, hx242_4⟩ := at_T46 (Kd.R_reads' HO231.out).2.2 4 p242 q242; obtain rfl : ad236 = ad242 := (by injection e242); (try simp only [show (4 : Int).toNat = 4 from rfl, Nat.reduceMul, Nat.reduceEqDiff, Go.Addr.add, ↓reduceIte] at hx242_0); (try simp only [show (4 : Int).toNat = 4 from rfl, Nat.reduceMul, Nat.reduceEqDiff, Go.Addr.add, ↓reduceIte] at hx242_1); (try simp only [show (4 : Int).toNat = 4 from rfl, Nat.reduceMul, Nat.reduceEqDiff, Go.Addr.add, ↓reduceIte] at hx242_2); (try simp only [show (4 : Int).toNat = 4 from rfl, Nat.reduceMul, Nat.reduceEqDiff, Go.Addr.add, ↓reduceIte] at hx242_3); (try simp only [show (4 : Int).toNat = 4 from rfl, Nat.reduceMul, Nat.reduceEqDiff, Go.Addr.add, ↓reduceIte] at hx242_4); have qi242 : (4 < t228.length) = True := eq_true (by omega); (try rw [show ((4 : Int)).toNat = 4 from rfl] at hx242_0); (try rw [show 4 * 5 = 20 from rfl] at hx242_0); (try rw [show ((4 : Int)).toNat = 4 from rfl] at hx242_1); (try rw [show 4 * 5 = 20 from rfl] at hx242_1); (try rw [show ((4 : Int)).toNat = 4 from rfl] at hx242_2); (try rw [show 4 * 5 = 20 from rfl] at hx242_2); (try rw [show ((4 : Int)).toNat = 4 from rfl] at hx242_3); (try rw [show 4 * 5 = 20 from rfl] at hx242_3); (try rw [show ((4 : Int)).toNat = 4 from rfl] at hx242_4); (try rw [show 4 * 5 = 20 from rfl] at hx242_4); replace p242 := eq_true p242; replace q242 := eq_true q242))
                              go_ret
                              exact ⟨by first | rfl | (simp [errW_none, errW_some] <;> rfl) | (simp [*, errW_none, errW_some] <;> rfl), by repeat (first | (with_reducible first | exact HB.out | apply below_alloc | apply pw_below_drewN | apply below_drew1) | exact HB.out)⟩
                            · rw [if_neg c16] at H
                              have c16b0 : (((rd_T46 t228 4).f0) == 5) = false := beq_eq_false_iff_ne.mpr c16
                              have c16b1 : (((rd_T46 t228 4).f0) != 5) = true := bne_iff_ne.mpr c16
                              obtain rfl := Option.some.inj H
                              go_enter Try.func37, Try.ntmps37
                              go_wp2_with (first | ((with_reducible refine gate_callee (f := 39) rfl ?_); refine goesL_ (some 6) rfl rfl Try.func39 (by kernel_rfl) rfl #[.string (⟨#[60, 97, 32, 98, 61, 39, 49, 39, 62, 120, 38, 97, 109, 112, 59, 121, 60, 47, 97, 62]⟩ : ByteArray)] rfl (by (try simp only [List.map_toArray, List.map_cons, List.map_nil]); first | done | rfl | (simp only [List.length_drop, List.length_take]; rfl)) ?_; (with_reducible refine (lexer_Lex.calls (⟨#[60, 97, 32, 98, 61, 39, 49, 39, 62, 120, 38, 97, 109, 112, 59, 121, 60, 47, 97, 62]⟩ : ByteArray) t228 t229 _ (by first | exact hG | exact G.below hG (by repeat (first | (with_reducible first | exact HB.out | apply below_alloc | apply pw_below_drewN | apply below_drew1) | exact HB.out))) A1.out).mono ?_); rintro e w20 ⟨v230, rfl, ho0, hb⟩; refine ⟨_, rfl, ?_⟩; have n0_ := Aside0.mk (Kd.R_lower ho0 (below_size (by repeat (first | (with_reducible first | exact HB.out | apply below_alloc | apply pw_below_drewN | apply below_drew1) | exact HB.out)))); have n1_ := Aside0.mk (below_step (by repeat (first | (with_reducible first | exact HB.out | apply below_alloc | apply pw_below_drewN | apply below_drew1) | exact HB.out)) hb); clear HB; have HO231 := n0_; have HB := n1_; clear n0_ n1_; (try clear hb); (try clear hb2); (try clear hk); (try clear hi); (try clear ho0)) | ((with_reducible refine gate_callee (f := 39) rfl ?_); refine goesL_ (some 10) rfl rfl Try.func39 (by kernel_rfl) rfl #[.string (⟨#[60, 97, 32, 98, 62]⟩ : ByteArray)] rfl (by (try simp only [List.map_toArray, List.map_cons, List.map_nil]); first | done | rfl | (simp only [List.length_drop, List.length_take]; rfl)) ?_; (with_reducible refine (lexer_Lex.calls (⟨#[60, 97, 32, 98, 62]⟩ : ByteArray) t232 t233 _ (by first | exact hG | exact G.below hG (by repeat (first | (with_reducible first | exact HB.out | apply below_alloc | apply pw_below_drewN | apply below_drew1) | exact HB.out))) A2.out).mono ?_); rintro e w21 ⟨v234, rfl, ho0, hb⟩; refine ⟨_, rfl, ?_⟩; have n0_ := Aside0.mk (Kd.R_elder' (by (with_reducible repeat (first | apply Kd.R_alloc | apply Kd.R_drewN | apply Kd.R_drew)); exact HO231.out) (Kd.R_base ho0) hb); have n1_ := Aside0.mk (Kd.R_lower (Kd.R_new' ho0 (Kd.R_lt (by (with_reducible repeat (first | apply Kd.R_alloc | apply Kd.R_drewN | apply Kd.R_drew)); exact HO231.out))) (below_size (by repeat (first | (with_reducible first | exact HB.out | apply below_alloc | apply pw_below_drewN | apply below_drew1) | exact HB.out)))); have n2_ := Aside0.mk (below_step (by repeat (first | (with_reducible first | exact HB.out | apply below_alloc | apply pw_below_drewN | apply below_drew1) | exact HB.out)) hb); clear HO231; clear HB; have HO231 := n0_; have HO235 := n1_; have HB := n2_; clear n0_ n1_ n2_; (try clear hb); (try clear hb2); (try clear hk); (try clear hi); (try clear ho0); obtain ⟨Ao22, co22, eo22⟩ := Kd.R_slice HO231.out; subst eo22; have p236 : 0 ≤ (0 : Int) := (by omega); have q236 : 0 < (t228.length : Int) := of_decide_eq_true (by first | (with_reducible assumption) | assumption); obtain ⟨ad236, e236, hx236_0, hx236_1, hx236_2, hx236_3, hx236_4⟩ := at_T46 (Kd.R_reads' HO231.out).2.2 0 p236 q236; cases e236; have qi236 : (0 < t228.length) = True := eq_true (by omega); (try rw [show ((0 : Int)).toNat = 0 from rfl] at hx236_0); (try rw [show 0 * 5 = 0 from rfl] at hx236_0); (try rw [Addr.add_zero'] at hx236_0); (try rw [show ((0 : Int)).toNat = 0 from rfl] at hx236_1); (try rw [show 0 * 5 = 0 from rfl] at hx236_1); (try rw [Addr.add_zero'] at hx236_1); (try rw [show ((0 : Int)).toNat = 0 from rfl] at hx236_2); (try rw [show 0 * 5 = 0 from rfl] at hx236_2); (try rw [Addr.add_zero'] at hx236_2); (try rw [show ((0 : Int)).toNat = 0 from rfl] at hx236_3); (try rw [show 0 * 5 = 0 from rfl] at hx236_3); (try rw [Addr.add_zero'] at hx236_3); (try rw [show ((0 : Int)).toNat = 0 from rfl] at hx236_4); (try rw [show 0 * 5 = 0 from rfl] at hx236_4); (try rw [Addr.add_zero'] at hx236_4); replace p236 := eq_true p236; replace q236 := eq_true q236; have p237 : 0 ≤ (1 : Int) := (by omega); have q237 : 1 < (t228.length : Int) := of_decide_eq_true (by first | (with_reducible assumption) | assumption); obtain ⟨ad237, e237, hx237_0, hx237_1, hx237_2, hx237_3, hx237_4⟩ := at_T46 (Kd.R_reads' HO231.out).2.2 1 p237 q237; obtain rfl : ad236 = ad237 := (by injection e237); (try simp only [show (1 : Int).toNat = 1 from rfl, Nat.reduceMul, Nat.reduceEqDiff, Go.Addr.add, ↓reduceIte] at hx237_0); (try simp only [show (1 : Int).toNat = 1 from rfl, Nat.reduceMul, Nat.reduceEqDiff, Go.Addr.add, ↓reduceIte] at hx237_1); (try simp only [show (1 : Int).toNat = 1 from rfl, Nat.reduceMul, Nat.reduceEqDiff, Go.Addr.add, ↓reduceIte] at hx237_2); (try simp only [show (1 : Int).toNat = 1 from rfl, Nat.reduceMul, Nat.reduceEqDiff, Go.Addr.add, ↓reduceIte] at hx237_3); (try simp only [show (1 : Int).toNat = 1 from rfl, Nat.reduceMul, Nat.reduceEqDiff, Go.Addr.add, ↓reduceIte] at hx237_4); have qi237 : (1 < t228.length) = True := eq_true (by omega); (try rw [show ((1 : Int)).toNat = 1 from rfl] at hx237_0); (try rw [show 1 * 5 = 5 from rfl] at hx237_0); (try rw [show ((1 : Int)).toNat = 1 from rfl] at hx237_1); (try rw [show 1 * 5 = 5 from rfl] at hx237_1); (try rw [show ((1 : Int)).toNat = 1 from rfl] at hx237_2); (try rw [show 1 * 5 = 5 from rfl] at hx237_2); (try rw [show ((1 : Int)).toNat = 1 from rfl] at hx237_3); (try rw [show 1 * 5 = 5 from rfl] at hx237_3); (try rw [show ((1 : Int)).toNat = 1 from rfl] at hx237_4); (try rw [show 1 * 5 = 5 from rfl] at hx237_4); replace p237 := eq_true p237; replace q237 := eq_true q237; have p238 : 0 ≤ (1 : Int) := (by omega); have q238 : 1 < (t228.length : Int) := of_decide_eq_true (by first | (with_reducible assumption) | assumption); obtain ⟨ad238, e238, hx238_0, hx238_1, hx238_2, hx238_3, hx238_4⟩ := at_T46 (Kd.R_reads' HO231.out).2.2 1 p238 q238; obtain rfl : ad236 = ad238 := (by injection e238); (try simp only [show (1 : Int).toNat = 1 from rfl, Nat.reduceMul, Nat.reduceEqDiff, Go.Addr.add, ↓reduceIte] at hx238_0); (try simp only [show (1 : Int).toNat = 1 from rfl, Nat.reduceMul, Nat.reduceEqDiff, Go.Addr.add, ↓reduceIte] at hx238_1); (try simp only [show (1 : Int).toNat = 1 from rfl, Nat.reduceMul, Nat.reduceEqDiff, Go.Addr.add, ↓reduceIte] at hx238_2); (try simp only [show (1 : Int).toNat = 1 from rfl, Nat.reduceMul, Nat.reduceEqDiff, Go.Addr.add, ↓reduceIte] at hx238_3); (try simp only [show (1 : Int).toNat = 1 from rfl, Nat.reduceMul, Nat.reduceEqDiff, Go.Addr.add, ↓reduceIte] at hx238_4); have qi238 : (1 < t228.length) = True := eq_true (by omega); (try rw [show ((1 : Int)).toNat = 1 from rfl] at hx238_0); (try rw [show 1 * 5 = 5 from rfl] at hx238_0); (try rw [show ((1 : Int)).toNat = 1 from rfl] at hx238_1); (try rw [show 1 * 5 = 5 from rfl] at hx238_1); (try rw [show ((1 : Int)).toNat = 1 from rfl] at hx238_2); (try rw [show 1 * 5 = 5 from rfl] at hx238_2); (try rw [show ((1 : Int)).toNat = 1 from rfl] at hx238_3); (try rw [show 1 * 5 = 5 from rfl] at hx238_3); (try rw [show ((1 : Int)).toNat = 1 from rfl] at hx238_4); (try rw [show 1 * 5 = 5 from rfl] at hx238_4); replace p238 := eq_true p238; replace q238 := eq_true q238; have p239 : 0 ≤ (2 : Int) := (by omega); have q239 : 2 < (t228.length : Int) := of_decide_eq_true (by first | (with_reducible assumption) | assumption); obtain ⟨ad239, e239, hx239_0, hx239_1, hx239_2, hx239_3, hx239_4⟩ := at_T46 (Kd.R_reads' HO231.out).2.2 2 p239 q239; obtain rfl : ad236 = ad239 := (by injection e239); (try simp only [show (2 : Int).toNat = 2 from rfl, Nat.reduceMul, Nat.reduceEqDiff, Go.Addr.add, ↓reduceIte] at hx239_0); (try simp only [show (2 : Int).toNat = 2 from rfl, Nat.reduceMul, Nat.reduceEqDiff, Go.Addr.add, ↓reduceIte] at hx239_1); (try simp only [show (2 : Int).toNat = 2 from rfl, Nat.reduceMul, Nat.reduceEqDiff, Go.Addr.add, ↓reduceIte] at hx239_2); (try simp only [show (2 : Int).toNat = 2 from rfl, Nat.reduceMul, Nat.reduceEqDiff, Go.Addr.add, ↓reduceIte] at hx239_3); (try simp only [show (2 : Int).toNat = 2 from rfl, Nat.reduceMul, Nat.reduceEqDiff, Go.Addr.add, ↓reduceIte] at hx239_4); have qi239 : (2 < t228.length) = True := eq_true (by omega); (try rw [show ((2 : Int)).toNat = 2 from rfl] at hx239_0); (try rw [show 2 * 5 = 10 from rfl] at hx239_0); (try rw [show ((2 : Int)).toNat = 2 from rfl] at hx239_1); (try rw [show 2 * 5 = 10 from rfl] at hx239_1); (try rw [show ((2 : Int)).toNat = 2 from rfl] at hx239_2); (try rw [show 2 * 5 = 10 from rfl] at hx239_2); (try rw [show ((2 : Int)).toNat = 2 from rfl] at hx239_3); (try rw [show 2 * 5 = 10 from rfl] at hx239_3); (try rw [show ((2 : Int)).toNat = 2 from rfl] at hx239_4); (try rw [show 2 * 5 = 10 from rfl] at hx239_4); replace p239 := eq_true p239; replace q239 := eq_true q239; have p240 : 0 ≤ (3 : Int) := (by omega); have q240 : 3 < (t228.length : Int) := of_decide_eq_true (by first | (with_reducible assumption) | assumption); obtain ⟨ad240, e240, hx240_0, hx240_1, hx240_2, hx240_3, hx240_4⟩ := at_T46 (Kd.R_reads' HO231.out).2.2 3 p240 q240; obtain rfl : ad236 = ad240 := (by injection e240); (try simp only [show (3 : Int).toNat = 3 from rfl, Nat.reduceMul, Nat.reduceEqDiff, Go.Addr.add, ↓reduceIte] at hx240_0); (try simp only [show (3 : Int).toNat = 3 from rfl, Nat.reduceMul, Nat.reduceEqDiff, Go.Addr.add, ↓reduceIte] at hx240_1); (try simp only [show (3 : Int).toNat = 3 from rfl, Nat.reduceMul, Nat.reduceEqDiff, Go.Addr.add, ↓reduceIte] at hx240_2); (try simp only [show (3 : Int).toNat = 3 from rfl, Nat.reduceMul, Nat.reduceEqDiff, Go.Addr.add, ↓reduceIte] at hx240_3); (try simp only [show (3 : Int).toNat = 3 from rfl, Nat.reduceMul, Nat.reduceEqDiff, Go.Addr.add, ↓reduceIte] at hx240_4); have qi240 : (3 < t228.length) = True := eq_true (by omega); (try rw [show ((3 : Int)).toNat = 3 from rfl] at hx240_0); (try rw [show 3 * 5 = 15 from rfl] at hx240_0); (try rw [show ((3 : Int)).toNat = 3 from rfl] at hx240_1); (try rw [show 3 * 5 = 15 from rfl] at hx240_1); (try rw [show ((3 : Int)).toNat = 3 from rfl] at hx240_2); (try rw [show 3 * 5 = 15 from rfl] at hx240_2); (try rw [show ((3 : Int)).toNat = 3 from rfl] at hx240_3); (try rw [show 3 * 5 = 15 from rfl] at hx240_3); (try rw [show ((3 : Int)).toNat = 3 from rfl] at hx240_4); (try rw [show 3 * 5 = 15 from rfl] at hx240_4); replace p240 := eq_true p240; replace q240 := eq_true q240; have p241 : 0 ≤ (4 : Int) := (by omega); have q241 : 4 < (t228.length : Int) := of_decide_eq_true (by first | (with_reducible assumption) | assumption); obtain ⟨ad241, e241, hx241_0, hx241_1, hx241_2, hx241_3, hx241_4⟩ := at_T46 (Kd.R_reads' HO231.out).2.2 4 p241 q241; obtain rfl : ad236 = ad241 := (by injection e241); (try simp only [show (4 : Int).toNat = 4 from rfl, Nat.reduceMul, Nat.reduceEqDiff, Go.Addr.add, ↓reduceIte] at hx241_0); (try simp only [show (4 : Int).toNat = 4 from rfl, Nat.reduceMul, Nat.reduceEqDiff, Go.Addr.add, ↓reduceIte] at hx241_1); (try simp only [show (4 : Int).toNat = 4 from rfl, Nat.reduceMul, Nat.reduceEqDiff, Go.Addr.add, ↓reduceIte] at hx241_2); (try simp only [show (4 : Int).toNat = 4 from rfl, Nat.reduceMul, Nat.reduceEqDiff, Go.Addr.add, ↓reduceIte] at hx241_3); (try simp only [show (4 : Int).toNat = 4 from rfl, Nat.reduceMul, Nat.reduceEqDiff, Go.Addr.add, ↓reduceIte] at hx241_4); have qi241 : (4 < t228.length) = True := eq_true (by omega); (try rw [show ((4 : Int)).toNat = 4 from rfl] at hx241_0); (try rw [show 4 * 5 = 20 from rfl] at hx241_0); (try rw [show ((4 : Int)).toNat = 4 from rfl] at hx241_1); (try rw [show 4 * 5 = 20 from rfl] at hx241_1); (try rw [show ((4 : Int)).toNat = 4 from rfl] at hx241_2); (try rw [show 4 * 5 = 20 from rfl] at hx241_2); (try rw [show ((4 : Int)).toNat = 4 from rfl] at hx241_3); (try rw [show 4 * 5 = 20 from rfl] at hx241_3); (try rw [show ((4 : Int)).toNat = 4 from rfl] at hx241_4); (try rw [show 4 * 5 = 20 from rfl] at hx241_4); replace p241 := eq_true p241; replace q241 := eq_true q241))
                              go_ret
                              exact ⟨by first | rfl | (simp [errW_none, errW_some] <;> rfl) | (simp [*, errW_none, errW_some] <;> rfl), by repeat (first | (with_reducible first | exact HB.out | apply below_alloc | apply pw_below_drewN | apply below_drew1) | exact HB.out)⟩
                          · rw [if_neg c15] at H
                            exact absurd H (by simp)
                        · rw [if_neg c14] at H
                          have c14b0 : (((rd_T46 t228 3).f4).toList == ([120, 38, 121] : List UInt8)) = false := beq_eq_false_iff_ne.mpr c14
                          have c14b1 : (((rd_T46 t228 3).f4).toList != ([120, 38, 121] : List UInt8)) = true := bne_iff_ne.mpr c14
                          obtain rfl := Option.some.inj H
                          go_enter Try.func37, Try.ntmps37
                          go_wp2_with (first | ((with_reducible refine gate_callee (f := 39) rfl ?_); refine goesL_ (some 6) rfl rfl Try.func39 (by kernel_rfl) rfl #[.string (⟨#[60, 97, 32, 98, 61, 39, 49, 39, 62, 120, 38, 97, 109, 112, 59, 121, 60, 47, 97, 62]⟩ : ByteArray)] rfl (by (try simp only [List.map_toArray, List.map_cons, List.map_nil]); first | done | rfl | (simp only [List.length_drop, List.length_take]; rfl)) ?_; (with_reducible refine (lexer_Lex.calls (⟨#[60, 97, 32, 98, 61, 39, 49, 39, 62, 120, 38, 97, 109, 112, 59, 121, 60, 47, 97, 62]⟩ : ByteArray) t228 t229 _ (by first | exact hG | exact G.below hG (by repeat (first | (with_reducible first | exact HB.out | apply below_alloc | apply pw_below_drewN | apply below_drew1) | exact HB.out))) A1.out).mono ?_); rintro e w23 ⟨v230, rfl, ho0, hb⟩; refine ⟨_, rfl, ?_⟩; have n0_ := Aside0.mk (Kd.R_lower ho0 (below_size (by repeat (first | (with_reducible first | exact HB.out | apply below_alloc | apply pw_below_drewN | apply below_drew1) | exact HB.out)))); have n1_ := Aside0.mk (below_step (by repeat (first | (with_reducible first | exact HB.out | apply below_alloc | apply pw_below_drewN | apply below_drew1) | exact HB.out)) hb); clear HB; have HO231 := n0_; have HB := n1_; clear n0_ n1_; (try clear hb); (try clear hb2); (try clear hk); (try clear hi); (try clear ho0)) | ((with_reducible refine gate_callee (f := 39) rfl ?_); refine goesL_ (some 10) rfl rfl Try.func39 (by kernel_rfl) rfl #[.string (⟨#[60, 97, 32, 98, 62]⟩ : ByteArray)] rfl (by (try simp only [List.map_toArray, List.map_cons, List.map_nil]); first | done | rfl | (simp only [List.length_drop, List.length_take]; rfl)) ?_; (with_reducible refine (lexer_Lex.calls (⟨#[60, 97, 32, 98, 62]⟩ : ByteArray) t232 t233 _ (by first | exact hG | exact G.below hG (by repeat (first | (with_reducible first | exact HB.out | apply below_alloc | apply pw_below_drewN | apply below_drew1) | exact HB.out))) A2.out).mono ?_); rintro e w24 ⟨v234, rfl, ho0, hb⟩; refine ⟨_, rfl, ?_⟩; have n0_ := Aside0.mk (Kd.R_elder' (by (with_reducible repeat (first | apply Kd.R_alloc | apply Kd.R_drewN | apply Kd.R_drew)); exact HO231.out) (Kd.R_base ho0) hb); have n1_ := Aside0.mk (Kd.R_lower (Kd.R_new' ho0 (Kd.R_lt (by (with_reducible repeat (first | apply Kd.R_alloc | apply Kd.R_drewN | apply Kd.R_drew)); exact HO231.out))) (below_size (by repeat (first | (with_reducible first | exact HB.out | apply below_alloc | apply pw_below_drewN | apply below_drew1) | exact HB.out)))); have n2_ := Aside0.mk (below_step (by repeat (first | (with_reducible first | exact HB.out | apply below_alloc | apply pw_below_drewN | apply below_drew1) | exact HB.out)) hb); clear HO231; clear HB; have HO231 := n0_; have HO235 := n1_; have HB := n2_; clear n0_ n1_ n2_; (try clear hb); (try clear hb2); (try clear hk); (try clear hi); (try clear ho0); obtain ⟨Ao25, co25, eo25⟩ := Kd.R_slice HO231.out; subst eo25; have p236 : 0 ≤ (0 : Int) := (by omega); have q236 : 0 < (t228.length : Int) := of_decide_eq_true (by first | (with_reducible assumption) | assumption); obtain ⟨ad236, e236, hx236_0, hx236_1, hx236_2, hx236_3, hx236_4⟩ := at_T46 (Kd.R_reads' HO231.out).2.2 0 p236 q236; cases e236; have qi236 : (0 < t228.length) = True := eq_true (by omega); (try rw [show ((0 : Int)).toNat = 0 from rfl] at hx236_0); (try rw [show 0 * 5 = 0 from rfl] at hx236_0); (try rw [Addr.add_zero'] at hx236_0); (try rw [show ((0 : Int)).toNat = 0 from rfl] at hx236_1); (try rw [show 0 * 5 = 0 from rfl] at hx236_1); (try rw [Addr.add_zero'] at hx236_1); (try rw [show ((0 : Int)).toNat = 0 from rfl] at hx236_2); (try rw [show 0 * 5 = 0 from rfl] at hx236_2); (try rw [Addr.add_zero'] at hx236_2); (try rw [show ((0 : Int)).toNat = 0 from rfl] at hx236_3); (try rw [show 0 * 5 = 0 from rfl] at hx236_3); (try rw [Addr.add_zero'] at hx236_3); (try rw [show ((0 : Int)).toNat = 0 from rfl] at hx236_4); (try rw [show 0 * 5 = 0 from rfl] at hx236_4); (try rw [Addr.add_zero'] at hx236_4); replace p236 := eq_true p236; replace q236 := eq_true q236; have p237 : 0 ≤ (1 : Int) := (by omega); have q237 : 1 < (t228.length : Int) := of_decide_eq_true (by first | (with_reducible assumption) | assumption); obtain ⟨ad237, e237, hx237_0, hx237_1, hx237_2, hx237_3, hx237_4⟩ := at_T46 (Kd.R_reads' HO231.out).2.2 1 p237 q237; obtain rfl : ad236 = ad237 := (by injection e237); (try simp only [show (1 : Int).toNat = 1 from rfl, Nat.reduceMul, Nat.reduceEqDiff, Go.Addr.add, ↓reduceIte] at hx237_0); (try simp only [show (1 : Int).toNat = 1 from rfl, Nat.reduceMul, Nat.reduceEqDiff, Go.Addr.add, ↓reduceIte] at hx237_1); (try simp only [show (1 : Int).toNat = 1 from rfl, Nat.reduceMul, Nat.reduceEqDiff, Go.Addr.add, ↓reduceIte] at hx237_2); (try simp only [show (1 : Int).toNat = 1 from rfl, Nat.reduceMul, Nat.reduceEqDiff, Go.Addr.add, ↓reduceIte] at hx237_3); (try simp only [show (1 : Int).toNat = 1 from rfl, Nat.reduceMul, Nat.reduceEqDiff, Go.Addr.add, ↓reduceIte] at hx237_4); have qi237 : (1 < t228.length) = True := eq_true (by omega); (try rw [show ((1 : Int)).toNat = 1 from rfl] at hx237_0); (try rw [show 1 * 5 = 5 from rfl] at hx237_0); (try rw [show ((1 : Int)).toNat = 1 from rfl] at hx237_1); (try rw [show 1 * 5 = 5 from rfl] at hx237_1); (try rw [show ((1 : Int)).toNat = 1 from rfl] at hx237_2); (try rw [show 1 * 5 = 5 from rfl] at hx237_2); (try rw [show ((1 : Int)).toNat = 1 from rfl] at hx237_3); (try rw [show 1 * 5 = 5 from rfl] at hx237_3); (try rw [show ((1 : Int)).toNat = 1 from rfl] at hx237_4); (try rw [show 1 * 5 = 5 from rfl] at hx237_4); replace p237 := eq_true p237; replace q237 := eq_true q237; have p238 : 0 ≤ (1 : Int) := (by omega); have q238 : 1 < (t228.length : Int) := of_decide_eq_true (by first | (with_reducible assumption) | assumption); obtain ⟨ad238, e238, hx238_0, hx238_1, hx238_2, hx238_3, hx238_4⟩ := at_T46 (Kd.R_reads' HO231.out).2.2 1 p238 q238; obtain rfl : ad236 = ad238 := (by injection e238); (try simp only [show (1 : Int).toNat = 1 from rfl, Nat.reduceMul, Nat.reduceEqDiff, Go.Addr.add, ↓reduceIte] at hx238_0); (try simp only [show (1 : Int).toNat = 1 from rfl, Nat.reduceMul, Nat.reduceEqDiff, Go.Addr.add, ↓reduceIte] at hx238_1); (try simp only [show (1 : Int).toNat = 1 from rfl, Nat.reduceMul, Nat.reduceEqDiff, Go.Addr.add, ↓reduceIte] at hx238_2); (try simp only [show (1 : Int).toNat = 1 from rfl, Nat.reduceMul, Nat.reduceEqDiff, Go.Addr.add, ↓reduceIte] at hx238_3); (try simp only [show (1 : Int).toNat = 1 from rfl, Nat.reduceMul, Nat.reduceEqDiff, Go.Addr.add, ↓reduceIte] at hx238_4); have qi238 : (1 < t228.length) = True := eq_true (by omega); (try rw [show ((1 : Int)).toNat = 1 from rfl] at hx238_0); (try rw [show 1 * 5 = 5 from rfl] at hx238_0); (try rw [show ((1 : Int)).toNat = 1 from rfl] at hx238_1); (try rw [show 1 * 5 = 5 from rfl] at hx238_1); (try rw [show ((1 : Int)).toNat = 1 from rfl] at hx238_2); (try rw [show 1 * 5 = 5 from rfl] at hx238_2); (try rw [show ((1 : Int)).toNat = 1 from rfl] at hx238_3); (try rw [show 1 * 5 = 5 from rfl] at hx238_3); (try rw [show ((1 : Int)).toNat = 1 from rfl] at hx238_4); (try rw [show 1 * 5 = 5 from rfl] at hx238_4); replace p238 := eq_true p238; replace q238 := eq_true q238; have p239 : 0 ≤ (2 : Int) := (by omega); have q239 : 2 < (t228.length : Int) := of_decide_eq_true (by first | (with_reducible assumption) | assumption); obtain ⟨ad239, e239, hx239_0, hx239_1, hx239_2, hx239_3, hx239_4⟩ := at_T46 (Kd.R_reads' HO231.out).2.2 2 p239 q239; obtain rfl : ad236 = ad239 := (by injection e239); (try simp only [show (2 : Int).toNat = 2 from rfl, Nat.reduceMul, Nat.reduceEqDiff, Go.Addr.add, ↓reduceIte] at hx239_0); (try simp only [show (2 : Int).toNat = 2 from rfl, Nat.reduceMul, Nat.reduceEqDiff, Go.Addr.add, ↓reduceIte] at hx239_1); (try simp only [show (2 : Int).toNat = 2 from rfl, Nat.reduceMul, Nat.reduceEqDiff, Go.Addr.add, ↓reduceIte] at hx239_2); (try simp only [show (2 : Int).toNat = 2 from rfl, Nat.reduceMul, Nat.reduceEqDiff, Go.Addr.add, ↓reduceIte] at hx239_3); (try simp only [show (2 : Int).toNat = 2 from rfl, Nat.reduceMul, Nat.reduceEqDiff, Go.Addr.add, ↓reduceIte] at hx239_4); have qi239 : (2 < t228.length) = True := eq_true (by omega); (try rw [show ((2 : Int)).toNat = 2 from rfl] at hx239_0); (try rw [show 2 * 5 = 10 from rfl] at hx239_0); (try rw [show ((2 : Int)).toNat = 2 from rfl] at hx239_1); (try rw [show 2 * 5 = 10 from rfl] at hx239_1); (try rw [show ((2 : Int)).toNat = 2 from rfl] at hx239_2); (try rw [show 2 * 5 = 10 from rfl] at hx239_2); (try rw [show ((2 : Int)).toNat = 2 from rfl] at hx239_3); (try rw [show 2 * 5 = 10 from rfl] at hx239_3); (try rw [show ((2 : Int)).toNat = 2 from rfl] at hx239_4); (try rw [show 2 * 5 = 10 from rfl] at hx239_4); replace p239 := eq_true p239; replace q239 := eq_true q239; have p240 : 0 ≤ (3 : Int) := (by omega); have q240 : 3 < (t228.length : Int) := of_decide_eq_true (by first | (with_reducible assumption) | assumption); obtain ⟨ad240, e240, hx240_0, hx240_1, hx240_2, hx240_3, hx240_4⟩ := at_T46 (Kd.R_reads' HO231.out).2.2 3 p240 q240; obtain rfl : ad236 = ad240 := (by injection e240); (try simp only [show (3 : Int).toNat = 3 from rfl, Nat.reduceMul, Nat.reduceEqDiff, Go.Addr.add, ↓reduceIte] at hx240_0); (try simp only [show (3 : Int).toNat = 3 from rfl, Nat.reduceMul, Nat.reduceEqDiff, Go.Addr.add, ↓reduceIte] at hx240_1); (try simp only [show (3 : Int).toNat = 3 from rfl, Nat.reduceMul, Nat.reduceEqDiff, Go.Addr.add, ↓reduceIte] at hx240_2); (try simp only [show (3 : Int).toNat = 3 from rfl, Nat.reduceMul, Nat.reduceEqDiff, Go.Addr.add, ↓reduceIte] at hx240_3); (try simp only [show (3 : Int).toNat = 3 from rfl, Nat.reduceMul, Nat.reduceEqDiff, Go.Addr.add, ↓reduceIte] at hx240_4); have qi240 : (3 < t228.length) = True := eq_true (by omega); (try rw [show ((3 : Int)).toNat = 3 from rfl] at hx240_0); (try rw [show 3 * 5 = 15 from rfl] at hx240_0); (try rw [show ((3 : Int)).toNat = 3 from rfl] at hx240_1); (try rw [show 3 * 5 = 15 from rfl] at hx240_1); (try rw [show ((3 : Int)).toNat = 3 from rfl] at hx240_2); (try rw [show 3 * 5 = 15 from rfl] at hx240_2); (try rw [show ((3 : Int)).toNat = 3 from rfl] at hx240_3); (try rw [show 3 * 5 = 15 from rfl] at hx240_3); (try rw [show ((3 : Int)).toNat = 3 from rfl] at hx240_4); (try rw [show 3 * 5 = 15 from rfl] at hx240_4); replace p240 := eq_true p240; replace q240 := eq_true q240))
                          go_ret
                          exact ⟨by first | rfl | (simp [errW_none, errW_some] <;> rfl) | (simp [*, errW_none, errW_some] <;> rfl), by repeat (first | (with_reducible first | exact HB.out | apply below_alloc | apply pw_below_drewN | apply below_drew1) | exact HB.out)⟩
                      · rw [if_neg c13] at H
                        exact absurd H (by simp)
                    · rw [if_neg c12] at H
                      have c12b0 : (((rd_T46 t228 2).f0) == 3) = false := beq_eq_false_iff_ne.mpr c12
                      have c12b1 : (((rd_T46 t228 2).f0) != 3) = true := bne_iff_ne.mpr c12
                      obtain rfl := Option.some.inj H
                      go_enter Try.func37, Try.ntmps37
                      go_wp2_with (first | ((with_reducible refine gate_callee (f := 39) rfl ?_); refine goesL_ (some 6) rfl rfl Try.func39 (by kernel_rfl) rfl #[.string (⟨#[60, 97, 32, 98, 61, 39, 49, 39, 62, 120, 38, 97, 109, 112, 59, 121, 60, 47, 97, 62]⟩ : ByteArray)] rfl (by (try simp only [List.map_toArray, List.map_cons, List.map_nil]); first | done | rfl | (simp only [List.length_drop, List.length_take]; rfl)) ?_; (with_reducible refine (lexer_Lex.calls (⟨#[60, 97, 32, 98, 61, 39, 49, 39, 62, 120, 38, 97, 109, 112, 59, 121, 60, 47, 97, 62]⟩ : ByteArray) t228 t229 _ (by first | exact hG | exact G.below hG (by repeat (first | (with_reducible first | exact HB.out | apply below_alloc | apply pw_below_drewN | apply below_drew1) | exact HB.out))) A1.out).mono ?_); rintro e w26 ⟨v230, rfl, ho0, hb⟩; refine ⟨_, rfl, ?_⟩; have n0_ := Aside0.mk (Kd.R_lower ho0 (below_size (by repeat (first | (with_reducible first | exact HB.out | apply below_alloc | apply pw_below_drewN | apply below_drew1) | exact HB.out)))); have n1_ := Aside0.mk (below_step (by repeat (first | (with_reducible first | exact HB.out | apply below_alloc | apply pw_below_drewN | apply below_drew1) | exact HB.out)) hb); clear HB; have HO231 := n0_; have HB := n1_; clear n0_ n1_; (try clear hb); (try clear hb2); (try clear hk); (try clear hi); (try clear ho0)) | ((with_reducible refine gate_callee (f := 39) rfl ?_); refine goesL_ (some 10) rfl rfl Try.func39 (by kernel_rfl) rfl #[.string (⟨#[60, 97, 32, 98, 62]⟩ : ByteArray)] rfl (by (try simp only [List.map_toArray, List.map_cons, List.map_nil]); first | done | rfl | (simp only [List.length_drop, List.length_take]; rfl)) ?_; (with_reducible refine (lexer_Lex.calls (⟨#[60, 97, 32, 98, 62]⟩ : ByteArray) t232 t233 _ (by first | exact hG | exact G.below hG (by repeat (first | (with_reducible first | exact HB.out | apply below_alloc | apply pw_below_drewN | apply below_drew1) | exact HB.out))) A2.out).mono ?_); rintro e w27 ⟨v234, rfl, ho0, hb⟩; refine ⟨_, rfl, ?_⟩; have n0_ := Aside0.mk (Kd.R_elder' (by (with_reducible repeat (first | apply Kd.R_alloc | apply Kd.R_drewN | apply Kd.R_drew)); exact HO231.out) (Kd.R_base ho0) hb); have n1_ := Aside0.mk (Kd.R_lower (Kd.R_new' ho0 (Kd.R_lt (by (with_reducible repeat (first | apply Kd.R_alloc | apply Kd.R_drewN | apply Kd.R_drew)); exact HO231.out))) (below_size (by repeat (first | (with_reducible first | exact HB.out | apply below_alloc | apply pw_below_drewN | apply below_drew1) | exact HB.out)))); have n2_ := Aside0.mk (below_step (by repeat (first | (with_reducible first | exact HB.out | apply below_alloc | apply pw_below_drewN | apply below_drew1) | exact HB.out)) hb); clear HO231; clear HB; have HO231 := n0_; have HO235 := n1_; have HB := n2_; clear n0_ n1_ n2_; (try clear hb); (try clear hb2); (try clear hk); (try clear hi); (try clear ho0); obtain ⟨Ao28, co28, eo28⟩ := Kd.R_slice HO231.out; subst eo28; have p236 : 0 ≤ (0 : Int) := (by omega); have q236 : 0 < (t228.length : Int) := of_decide_eq_true (by first | (with_reducible assumption) | assumption); obtain ⟨ad236, e236, hx236_0, hx236_1, hx236_2, hx236_3, hx236_4⟩ := at_T46 (Kd.R_reads' HO231.out).2.2 0 p236 q236; cases e236; have qi236 : (0 < t228.length) = True := eq_true (by omega); (try rw [show ((0 : Int)).toNat = 0 from rfl] at hx236_0); (try rw [show 0 * 5 = 0 from rfl] at hx236_0); (try rw [Addr.add_zero'] at hx236_0); (try rw [show ((0 : Int)).toNat = 0 from rfl] at hx236_1); (try rw [show 0 * 5 = 0 from rfl] at hx236_1); (try rw [Addr.add_zero'] at hx236_1); (try rw [show ((0 : Int)).toNat = 0 from rfl] at hx236_2); (try rw [show 0 * 5 = 0 from rfl] at hx236_2); (try rw [Addr.add_zero'] at hx236_2); (try rw [show ((0 : Int)).toNat = 0 from rfl] at hx236_3); (try rw [show 0 * 5 = 0 from rfl] at hx236_3); (try rw [Addr.add_zero'] at hx236_3); (try rw [show ((0 : Int)).toNat = 0 from rfl] at hx236_4); (try rw [show 0 * 5 = 0 from rfl] at hx236_4); (try rw [Addr.add_zero'] at hx236_4); replace p236 := eq_true p236; replace q236 := eq_true q236; have p237 : 0 ≤ (1 : Int) := (by omega); have q237 : 1 < (t228.length : Int) := of_decide_eq_true (by first | (with_reducible assumption) | assumption); obtain ⟨ad237, e237, hx237_0, hx237_1, hx237_2, hx237_3, hx237_4⟩ := at_T46 (Kd.R_reads' HO231.out).2.2 1 p237 q237; obtain rfl : ad236 = ad237 := (by injection e237); (try simp only [show (1 : Int).toNat = 1 from rfl, Nat.reduceMul, Nat.reduceEqDiff, Go.Addr.add, ↓reduceIte] at hx237_0); (try simp only [show (1 : Int).toNat = 1 from rfl, Nat.reduceMul, Nat.reduceEqDiff, Go.Addr.add, ↓reduceIte] at hx237_1); (try simp only [show (1 : Int).toNat = 1 from rfl, Nat.reduceMul, Nat.reduceEqDiff, Go.Addr.add, ↓reduceIte] at hx237_2); (try simp only [show (1 : Int).toNat = 1 from rfl, Nat.reduceMul, Nat.reduceEqDiff, Go.Addr.add, ↓reduceIte] at hx237_3); (try simp only [show (1 : Int).toNat = 1 from rfl, Nat.reduceMul, Nat.reduceEqDiff, Go.Addr.add, ↓reduceIte] at hx237_4); have qi237 : (1 < t228.length) = True := eq_true (by omega); (try rw [show ((1 : Int)).toNat = 1 from rfl] at hx237_0); (try rw [show 1 * 5 = 5 from rfl] at hx237_0); (try rw [show ((1 : Int)).toNat = 1 from rfl] at hx237_1); (try rw [show 1 * 5 = 5 from rfl] at hx237_1); (try rw [show ((1 : Int)).toNat = 1 from rfl] at hx237_2); (try rw [show 1 * 5 = 5 from rfl] at hx237_2); (try rw [show ((1 : Int)).toNat = 1 from rfl] at hx237_3); (try rw [show 1 * 5 = 5 from rfl] at hx237_3); (try rw [show ((1 : Int)).toNat = 1 from rfl] at hx237_4); (try rw [show 1 * 5 = 5 from rfl] at hx237_4); replace p237 := eq_true p237; replace q237 := eq_true q237; have p238 : 0 ≤ (1 : Int) := (by omega); have q238 : 1 < (t228.length : Int) := of_decide_eq_true (by first | (with_reducible assumption) | assumption); obtain ⟨ad238, e238, hx238_0, hx238_1, hx238_2, hx238_3, hx238_4⟩ := at_T46 (Kd.R_reads' HO231.out).2.2 1 p238 q238; obtain rfl : ad236 = ad238 := (by injection e238); (try simp only [show (1 : Int).toNat = 1 from rfl, Nat.reduceMul, Nat.reduceEqDiff, Go.Addr.add, ↓reduceIte] at hx238_0); (try simp only [show (1 : Int).toNat = 1 from rfl, Nat.reduceMul, Nat.reduceEqDiff, Go.Addr.add, ↓reduceIte] at hx238_1); (try simp only [show (1 : Int).toNat = 1 from rfl, Nat.reduceMul, Nat.reduceEqDiff, Go.Addr.add, ↓reduceIte] at hx238_2); (try simp only [show (1 : Int).toNat = 1 from rfl, Nat.reduceMul, Nat.reduceEqDiff, Go.Addr.add, ↓reduceIte] at hx238_3); (try simp only [show (1 : Int).toNat = 1 from rfl, Nat.reduceMul, Nat.reduceEqDiff, Go.Addr.add, ↓reduceIte] at hx238_4); have qi238 : (1 < t228.length) = True := eq_true (by omega); (try rw [show ((1 : Int)).toNat = 1 from rfl] at hx238_0); (try rw [show 1 * 5 = 5 from rfl] at hx238_0); (try rw [show ((1 : Int)).toNat = 1 from rfl] at hx238_1); (try rw [show 1 * 5 = 5 from rfl] at hx238_1); (try rw [show ((1 : Int)).toNat = 1 from rfl] at hx238_2); (try rw [show 1 * 5 = 5 from rfl] at hx238_2); (try rw [show ((1 : Int)).toNat = 1 from rfl] at hx238_3); (try rw [show 1 * 5 = 5 from rfl] at hx238_3); (try rw [show ((1 : Int)).toNat = 1 from rfl] at hx238_4); (try rw [show 1 * 5 = 5 from rfl] at hx238_4); replace p238 := eq_true p238; replace q238 := eq_true q238; have p239 : 0 ≤ (2 : Int) := (by omega); have q239 : 2 < (t228.length : Int) := of_decide_eq_true (by first | (with_reducible assumption) | assumption); obtain ⟨ad239, e239, hx239_0, hx239_1, hx239_2, hx239_3, hx239_4⟩ := at_T46 (Kd.R_reads' HO231.out).2.2 2 p239 q239; obtain rfl : ad236 = ad239 := (by injection e239); (try simp only [show (2 : Int).toNat = 2 from rfl, Nat.reduceMul, Nat.reduceEqDiff, Go.Addr.add, ↓reduceIte] at hx239_0); (try simp only [show (2 : Int).toNat = 2 from rfl, Nat.reduceMul, Nat.reduceEqDiff, Go.Addr.add, ↓reduceIte] at hx239_1); (try simp only [show (2 : Int).toNat = 2 from rfl, Nat.reduceMul, Nat.reduceEqDiff, Go.Addr.add, ↓reduceIte] at hx239_2); (try simp only [show (2 : Int).toNat = 2 from rfl, Nat.reduceMul, Nat.reduceEqDiff, Go.Addr.add, ↓reduceIte] at hx239_3); (try simp only [show (2 : Int).toNat = 2 from rfl, Nat.reduceMul, Nat.reduceEqDiff, Go.Addr.add, ↓reduceIte] at hx239_4); have qi239 : (2 < t228.length) = True := eq_true (by omega); (try rw [show ((2 : Int)).toNat = 2 from rfl] at hx239_0); (try rw [show 2 * 5 = 10 from rfl] at hx239_0); (try rw [show ((2 : Int)).toNat = 2 from rfl] at hx239_1); (try rw [show 2 * 5 = 10 from rfl] at hx239_1); (try rw [show ((2 : Int)).toNat = 2 from rfl] at hx239_2); (try rw [show 2 * 5 = 10 from rfl] at hx239_2); (try rw [show ((2 : Int)).toNat = 2 from rfl] at hx239_3); (try rw [show 2 * 5 = 10 from rfl] at hx239_3); (try rw [show ((2 : Int)).toNat = 2 from rfl] at hx239_4); (try rw [show 2 * 5 = 10 from rfl] at hx239_4); replace p239 := eq_true p239; replace q239 := eq_true q239))
                      go_ret
                      exact ⟨by first | rfl | (simp [errW_none, errW_some] <;> rfl) | (simp [*, errW_none, errW_some] <;> rfl), by repeat (first | (with_reducible first | exact HB.out | apply below_alloc | apply pw_below_drewN | apply below_drew1) | exact HB.out)⟩
                  · rw [if_neg c11] at H
                    exact absurd H (by simp)
                · rw [if_neg c10] at H
                  have c10b0 : (((rd_T46 t228 1).f4).toList == ([49] : List UInt8)) = false := beq_eq_false_iff_ne.mpr c10
                  have c10b1 : (((rd_T46 t228 1).f4).toList != ([49] : List UInt8)) = true := bne_iff_ne.mpr c10
                  obtain rfl := Option.some.inj H
                  go_enter Try.func37, Try.ntmps37
                  go_wp2_with (first | ((with_reducible refine gate_callee (f := 39) rfl ?_); refine goesL_ (some 6) rfl rfl Try.func39 (by kernel_rfl) rfl #[.string (⟨#[60, 97, 32, 98, 61, 39, 49, 39, 62, 120, 38, 97, 109, 112, 59, 121, 60, 47, 97, 62]⟩ : ByteArray)] rfl (by (try simp only [List.map_toArray, List.map_cons, List.map_nil]); first | done | rfl | (simp only [List.length_drop, List.length_take]; rfl)) ?_; (with_reducible refine (lexer_Lex.calls (⟨#[60, 97, 32, 98, 61, 39, 49, 39, 62, 120, 38, 97, 109, 112, 59, 121, 60, 47, 97, 62]⟩ : ByteArray) t228 t229 _ (by first | exact hG | exact G.below hG (by repeat (first | (with_reducible first | exact HB.out | apply below_alloc | apply pw_below_drewN | apply below_drew1) | exact HB.out))) A1.out).mono ?_); rintro e w29 ⟨v230, rfl, ho0, hb⟩; refine ⟨_, rfl, ?_⟩; have n0_ := Aside0.mk (Kd.R_lower ho0 (below_size (by repeat (first | (with_reducible first | exact HB.out | apply below_alloc | apply pw_below_drewN | apply below_drew1) | exact HB.out)))); have n1_ := Aside0.mk (below_step (by repeat (first | (with_reducible first | exact HB.out | apply below_alloc | apply pw_below_drewN | apply below_drew1) | exact HB.out)) hb); clear HB; have HO231 := n0_; have HB := n1_; clear n0_ n1_; (try clear hb); (try clear hb2); (try clear hk); (try clear hi); (try clear ho0)) | ((with_reducible refine gate_callee (f := 39) rfl ?_); refine goesL_ (some 10) rfl rfl Try.func39 (by kernel_rfl) rfl #[.string (⟨#[60, 97, 32, 98, 62]⟩ : ByteArray)] rfl (by (try simp only [List.map_toArray, List.map_cons, List.map_nil]); first | done | rfl | (simp only [List.length_drop, List.length_take]; rfl)) ?_; (with_reducible refine (lexer_Lex.calls (⟨#[60, 97, 32, 98, 62]⟩ : ByteArray) t232 t233 _ (by first | exact hG | exact G.below hG (by repeat (first | (with_reducible first | exact HB.out | apply below_alloc | apply pw_below_drewN | apply below_drew1) | exact HB.out))) A2.out).mono ?_); rintro e w30 ⟨v234, rfl, ho0, hb⟩; refine ⟨_, rfl, ?_⟩; have n0_ := Aside0.mk (Kd.R_elder' (by (with_reducible repeat (first | apply Kd.R_alloc | apply Kd.R_drewN | apply Kd.R_drew)); exact HO231.out) (Kd.R_base ho0) hb); have n1_ := Aside0.mk (Kd.R_lower (Kd.R_new' ho0 (Kd.R_lt (by (with_reducible repeat (first | apply Kd.R_alloc | apply Kd.R_drewN | apply Kd.R_drew)); exact HO231.out))) (below_size (by repeat (first | (with_reducible first | exact HB.out | apply below_alloc | apply pw_below_drewN | apply below_drew1) | exact HB.out)))); have n2_ := Aside0.mk (below_step (by repeat (first | (with_reducible first | exact HB.out | apply below_alloc | apply pw_below_drewN | apply below_drew1) | exact HB.out)) hb); clear HO231; clear HB; have HO231 := n0_; have HO235 := n1_; have HB := n2_; clear n0_ n1_ n2_; (try clear hb); (try clear hb2); (try clear hk); (try clear hi); (try clear ho0); obtain ⟨Ao31, co31, eo31⟩ := Kd.R_slice HO231.out; subst eo31; have p236 : 0 ≤ (0 : Int) := (by omega); have q236 : 0 < (t228.length : Int) := of_decide_eq_true (by first | (with_reducible assumption) | assumption); obtain ⟨ad236, e236, hx236_0, hx236_1, hx236_2, hx236_3, hx236_4⟩ := at_T46 (Kd.R_reads' HO231.out).2.2 0 p236 q236; cases e236; have qi236 : (0 < t228.length) = True := eq_true (by omega); (try rw [show ((0 : Int)).toNat = 0 from rfl] at hx236_0); (try rw [show 0 * 5 = 0 from rfl] at hx236_0); (try rw [Addr.add_zero'] at hx236_0); (try rw [show ((0 : Int)).toNat = 0 from rfl] at hx236_1); (try rw [show 0 * 5 = 0 from rfl] at hx236_1); (try rw [Addr.add_zero'] at hx236_1); (try rw [show ((0 : Int)).toNat = 0 from rfl] at hx236_2); (try rw [show 0 * 5 = 0 from rfl] at hx236_2); (try rw [Addr.add_zero'] at hx236_2); (try rw [show ((0 : Int)).toNat = 0 from rfl] at hx236_3); (try rw [show 0 * 5 = 0 from rfl] at hx236_3); (try rw [Addr.add_zero'] at hx236_3); (try rw [show ((0 : Int)).toNat = 0 from rfl] at hx236_4); (try rw [show 0 * 5 = 0 from rfl] at hx236_4); (try rw [Addr.add_zero'] at hx236_4); replace p236 := eq_true p236; replace q236 := eq_true q236; have p237 : 0 ≤ (1 : Int) := (by omega); have q237 : 1 < (t228.length : Int) := of_decide_eq_true (by first | (with_reducible assumption) | assumption); obtain ⟨ad237, e237, hx237_0, hx237_1, hx237_2, hx237_3, hx237_4⟩ := at_T46 (Kd.R_reads' HO231.out).2.2 1 p237 q237; obtain rfl : ad236 = ad237 := (by injection e237); (try simp only [show (1 : Int).toNat = 1 from rfl, Nat.reduceMul, Nat.reduceEqDiff, Go.Addr.add, ↓reduceIte] at hx237_0); (try simp only [show (1 : Int).toNat = 1 from rfl, Nat.reduceMul, Nat.reduceEqDiff, Go.Addr.add, ↓reduceIte] at hx237_1); (try simp only [show (1 : Int).toNat = 1 from rfl, Nat.reduceMul, Nat.reduceEqDiff, Go.Addr.add, ↓reduceIte] at hx237_2); (try simp only [show (1 : Int).toNat = 1 from rfl, Nat.reduceMul, Nat.reduceEqDiff, Go.Addr.add, ↓reduceIte] at hx237_3); (try simp only [show (1 : Int).toNat = 1 from rfl, Nat.reduceMul, Nat.reduceEqDiff, Go.Addr.add, ↓reduceIte] at hx237_4); have qi237 : (1 < t228.length) = True := eq_true (by omega); (try rw [show ((1 : Int)).toNat = 1 from rfl] at hx237_0); (try rw [show 1 * 5 = 5 from rfl] at hx237_0); (try rw [show ((1 : Int)).toNat = 1 from rfl] at hx237_1); (try rw [show 1 * 5 = 5 from rfl] at hx237_1); (try rw [show ((1 : Int)).toNat = 1 from rfl] at hx237_2); (try rw [show 1 * 5 = 5 from rfl] at hx237_2); (try rw [show ((1 : Int)).toNat = 1 from rfl] at hx237_3); (try rw [show 1 * 5 = 5 from rfl] at hx237_3); (try rw [show ((1 : Int)).toNat = 1 from rfl] at hx237_4); (try rw [show 1 * 5 = 5 from rfl] at hx237_4); replace p237 := eq_true p237; replace q237 := eq_true q237; have p238 : 0 ≤ (1 : Int) := (by omega); have q238 : 1 < (t228.length : Int) := of_decide_eq_true (by first | (with_reducible assumption) | assumption); obtain ⟨ad238, e238, hx238_0, hx238_1, hx238_2, hx238_3, hx238_4⟩ := at_T46 (Kd.R_reads' HO231.out).2.2 1 p238 q238; obtain rfl : ad236 = ad238 := (by injection e238); (try simp only [show (1 : Int).toNat = 1 from rfl, Nat.reduceMul, Nat.reduceEqDiff, Go.Addr.add, ↓reduceIte] at hx238_0); (try simp only [show (1 : Int).toNat = 1 from rfl, Nat.reduceMul, Nat.reduceEqDiff, Go.Addr.add, ↓reduceIte] at hx238_1); (try simp only [show (1 : Int).toNat = 1 from rfl, Nat.reduceMul, Nat.reduceEqDiff, Go.Addr.add, ↓reduceIte] at hx238_2); (try simp only [show (1 : Int).toNat = 1 from rfl, Nat.reduceMul, Nat.reduceEqDiff, Go.Addr.add, ↓reduceIte] at hx238_3); (try simp only [show (1 : Int).toNat = 1 from rfl, Nat.reduceMul, Nat.reduceEqDiff, Go.Addr.add, ↓reduceIte] at hx238_4); have qi238 : (1 < t228.length) = True := eq_true (by omega); (try rw [show ((1 : Int)).toNat = 1 from rfl] at hx238_0); (try rw [show 1 * 5 = 5 from rfl] at hx238_0); (try rw [show ((1 : Int)).toNat = 1 from rfl] at hx238_1); (try rw [show 1 * 5 = 5 from rfl] at hx238_1); (try rw [show ((1 : Int)).toNat = 1 from rfl] at hx238_2); (try rw [show 1 * 5 = 5 from rfl] at hx238_2); (try rw [show ((1 : Int)).toNat = 1 from rfl] at hx238_3); (try rw [show 1 * 5 = 5 from rfl] at hx238_3); (try rw [show ((1 : Int)).toNat = 1 from rfl] at hx238_4); (try rw [show 1 * 5 = 5 from rfl] at hx238_4); replace p238 := eq_true p238; replace q238 := eq_true q238))
                  go_ret
                  exact ⟨by first | rfl | (simp [errW_none, errW_some] <;> rfl) | (simp [*, errW_none, errW_some] <;> rfl), by repeat (first | (with_reducible first | exact HB.out | apply below_alloc | apply pw_below_drewN | apply below_drew1) | exact HB.out)⟩
              · rw [if_neg c9] at H
                have c9b0 : (((rd_T46 t228 1).f3).toList == ([98] : List UInt8)) = false := beq_eq_false_iff_ne.mpr c9
                have c9b1 : (((rd_T46 t228 1).f3).toList != ([98] : List UInt8)) = true := bne_iff_ne.mpr c9
                obtain rfl := Option.some.inj H
                go_enter Try.func37, Try.ntmps37
                go_wp2_with (first | ((with_reducible refine gate_callee (f := 39) rfl ?_); refine goesL_ (some 6) rfl rfl Try.func39 (by kernel_rfl) rfl #[.string (⟨#[60, 97, 32, 98, 61, 39, 49, 39, 62, 120, 38, 97, 109, 112, 59, 121, 60, 47, 97, 62]⟩ : ByteArray)] rfl (by (try simp only [List.map_toArray, List.map_cons, List.map_nil]); first | done | rfl | (simp only [List.length_drop, List.length_take]; rfl)) ?_; (with_reducible refine (lexer_Lex.calls (⟨#[60, 97, 32, 98, 61, 39, 49, 39, 62, 120, 38, 97, 109, 112, 59, 121, 60, 47, 97, 62]⟩ : ByteArray) t228 t229 _ (by first | exact hG | exact G.below hG (by repeat (first | (with_reducible first | exact HB.out | apply below_alloc | apply pw_below_drewN | apply below_drew1) | exact HB.out))) A1.out).mono ?_); rintro e w32 ⟨v230, rfl, ho0, hb⟩; refine ⟨_, rfl, ?_⟩; have n0_ := Aside0.mk (Kd.R_lower ho0 (below_size (by repeat (first | (with_reducible first | exact HB.out | apply below_alloc | apply pw_below_drewN | apply below_drew1) | exact HB.out)))); have n1_ := Aside0.mk (below_step (by repeat (first | (with_reducible first | exact HB.out | apply below_alloc | apply pw_below_drewN | apply below_drew1) | exact HB.out)) hb); clear HB; have HO231 := n0_; have HB := n1_; clear n0_ n1_; (try clear hb); (try clear hb2); (try clear hk); (try clear hi); (try clear ho0)) | ((with_reducible refine gate_callee (f := 39) rfl ?_); refine goesL_ (some 10) rfl rfl Try.func39 (by kernel_rfl) rfl #[.string (⟨#[60, 97, 32, 98, 62]⟩ : ByteArray)] rfl (by (try simp only [List.map_toArray, List.map_cons, List.map_nil]); first | done | rfl | (simp only [List.length_drop, List.length_take]; rfl)) ?_; (with_reducible refine (lexer_Lex.calls (⟨#[60, 97, 32, 98, 62]⟩ : ByteArray) t232 t233 _ (by first | exact hG | exact G.below hG (by repeat (first | (with_reducible first | exact HB.out | apply below_alloc | apply pw_below_drewN | apply below_drew1) | exact HB.out))) A2.out).mono ?_); rintro e w33 ⟨v234, rfl, ho0, hb⟩; refine ⟨_, rfl, ?_⟩; have n0_ := Aside0.mk (Kd.R_elder' (by (with_reducible repeat (first | apply Kd.R_alloc | apply Kd.R_drewN | apply Kd.R_drew)); exact HO231.out) (Kd.R_base ho0) hb); have n1_ := Aside0.mk (Kd.R_lower (Kd.R_new' ho0 (Kd.R_lt (by (with_reducible repeat (first | apply Kd.R_alloc | apply Kd.R_drewN | apply Kd.R_drew)); exact HO231.out))) (below_size (by repeat (first | (with_reducible first | exact HB.out | apply below_alloc | apply pw_below_drewN | apply below_drew1) | exact HB.out)))); have n2_ := Aside0.mk (below_step (by repeat (first | (with_reducible first | exact HB.out | apply below_alloc | apply pw_below_drewN | apply below_drew1) | exact HB.out)) hb); clear HO231; clear HB; have HO231 := n0_; have HO235 := n1_; have HB := n2_; clear n0_ n1_ n2_; (try clear hb); (try clear hb2); (try clear hk); (try clear hi); (try clear ho0); obtain ⟨Ao34, co34, eo34⟩ := Kd.R_slice HO231.out; subst eo34; have p236 : 0 ≤ (0 : Int) := (by omega); have q236 : 0 < (t228.length : Int) := of_decide_eq_true (by first | (with_reducible assumption) | assumption); obtain ⟨ad236, e236, hx236_0, hx236_1, hx236_2, hx236_3, hx236_4⟩ := at_T46 (Kd.R_reads' HO231.out).2.2 0 p236 q236; cases e236; have qi236 : (0 < t228.length) = True := eq_true (by omega); (try rw [show ((0 : Int)).toNat = 0 from rfl] at hx236_0); (try rw [show 0 * 5 = 0 from rfl] at hx236_0); (try rw [Addr.add_zero'] at hx236_0); (try rw [show ((0 : Int)).toNat = 0 from rfl] at hx236_1); (try rw [show 0 * 5 = 0 from rfl] at hx236_1); (try rw [Addr.add_zero'] at hx236_1); (try rw [show ((0 : Int)).toNat = 0 from rfl] at hx236_2); (try rw [show 0 * 5 = 0 from rfl] at hx236_2); (try rw [Addr.add_zero'] at hx236_2); (try rw [show ((0 : Int)).toNat = 0 from rfl] at hx236_3); (try rw [show 0 * 5 = 0 from rfl] at hx236_3); (try rw [Addr.add_zero'] at hx236_3); (try rw [show ((0 : Int)).toNat = 0 from rfl] at hx236_4); (try rw [show 0 * 5 = 0 from rfl] at hx236_4); (try rw [Addr.add_zero'] at hx236_4); replace p236 := eq_true p236; replace q236 := eq_true q236; have p237 : 0 ≤ (1 : Int) := (by omega); have q237 : 1 < (t228.length : Int) := of_decide_eq_true (by first | (with_reducible assumption) | assumption); obtain ⟨ad237, e237, hx237_0, hx237_1, hx237_2, hx237_3, hx237_4⟩ := at_T46 (Kd.R_reads' HO231.out).2.2 1 p237 q237; obtain rfl : ad236 = ad237 := (by injection e237); (try simp only [show (1 : Int).toNat = 1 from rfl, Nat.reduceMul, Nat.reduceEqDiff, Go.Addr.add, ↓reduceIte] at hx237_0); (try simp only [show (1 : Int).toNat = 1 from rfl, Nat.reduceMul, Nat.reduceEqDiff, Go.Addr.add, ↓reduceIte] at hx237_1); (try simp only [show (1 : Int).toNat = 1 from rfl, Nat.reduceMul, Nat.reduceEqDiff, Go.Addr.add, ↓reduceIte] at hx237_2); (try simp only [show (1 : Int).toNat = 1 from rfl, Nat.reduceMul, Nat.reduceEqDiff, Go.Addr.add, ↓reduceIte] at hx237_3); (try simp only [show (1 : Int).toNat = 1 from rfl, Nat.reduceMul, Nat.reduceEqDiff, Go.Addr.add, ↓reduceIte] at hx237_4); have qi237 : (1 < t228.length) = True := eq_true (by omega); (try rw [show ((1 : Int)).toNat = 1 from rfl] at hx237_0); (try rw [show 1 * 5 = 5 from rfl] at hx237_0); (try rw [show ((1 : Int)).toNat = 1 from rfl] at hx237_1); (try rw [show 1 * 5 = 5 from rfl] at hx237_1); (try rw [show ((1 : Int)).toNat = 1 from rfl] at hx237_2); (try rw [show 1 * 5 = 5 from rfl] at hx237_2); (try rw [show ((1 : Int)).toNat = 1 from rfl] at hx237_3); (try rw [show 1 * 5 = 5 from rfl] at hx237_3); (try rw [show ((1 : Int)).toNat = 1 from rfl] at hx237_4); (try rw [show 1 * 5 = 5 from rfl] at hx237_4); replace p237 := eq_true p237; replace q237 := eq_true q237))
                go_ret
                exact ⟨by first | rfl | (simp [errW_none, errW_some] <;> rfl) | (simp [*, errW_none, errW_some] <;> rfl), by repeat (first | (with_reducible first | exact HB.out | apply below_alloc | apply pw_below_drewN | apply below_drew1) | exact HB.out)⟩
            · rw [if_neg c8] at H
              exact absurd H (by simp)
          · rw [if_neg c7] at H
            have c7b0 : (((rd_T46 t228 0).f0) == 1) = false := beq_eq_false_iff_ne.mpr c7
            have c7b1 : (((rd_T46 t228 0).f0) != 1) = true := bne_iff_ne.mpr c7
            obtain rfl := Option.some.inj H
            go_enter Try.func37, Try.ntmps37
            go_wp2_with (first | ((with_reducible refine gate_callee (f := 39) rfl ?_); refine goesL_ (some 6) rfl rfl Try.func39 (by kernel_rfl) rfl #[.string (⟨#[60, 97, 32, 98, 61, 39, 49, 39, 62, 120, 38, 97, 109, 112, 59, 121, 60, 47, 97, 62]⟩ : ByteArray)] rfl (by (try simp only [List.map_toArray, List.map_cons, List.map_nil]); first | done | rfl | (simp only [List.length_drop, List.length_take]; rfl)) ?_; (with_reducible refine (lexer_Lex.calls (⟨#[60, 97, 32, 98, 61, 39, 49, 39, 62, 120, 38, 97, 109, 112, 59, 121, 60, 47, 97, 62]⟩ : ByteArray) t228 t229 _ (by first | exact hG | exact G.below hG (by repeat (first | (with_reducible first | exact HB.out | apply below_alloc | apply pw_below_drewN | apply below_drew1) | exact HB.out))) A1.out).mono ?_); rintro e w35 ⟨v230, rfl, ho0, hb⟩; refine ⟨_, rfl, ?_⟩; have n0_ := Aside0.mk (Kd.R_lower ho0 (below_size (by repeat (first | (with_reducible first | exact HB.out | apply below_alloc | apply pw_below_drewN | apply below_drew1) | exact HB.out)))); have n1_ := Aside0.mk (below_step (by repeat (first | (with_reducible first | exact HB.out | apply below_alloc | apply pw_below_drewN | apply below_drew1) | exact HB.out)) hb); clear HB; have HO231 := n0_; have HB := n1_; clear n0_ n1_; (try clear hb); (try clear hb2); (try clear hk); (try clear hi); (try clear ho0)) | ((with_reducible refine gate_callee (f := 39) rfl ?_); refine goesL_ (some 10) rfl rfl Try.func39 (by kernel_rfl) rfl #[.string (⟨#[60, 97, 32, 98, 62]⟩ : ByteArray)] rfl (by (try simp only [List.map_toArray, List.map_cons, List.map_nil]); first | done | rfl | (simp only [List.length_drop, List.length_take]; rfl)) ?_; (with_reducible refine (lexer_Lex.calls (⟨#[60, 97, 32, 98, 62]⟩ : ByteArray) t232 t233 _ (by first | exact hG | exact G.below hG (by repeat (first | (with_reducible first | exact HB.out | apply below_alloc | apply pw_below_drewN | apply below_drew1) | exact HB.out))) A2.out).mono ?_); rintro e w36 ⟨v234, rfl, ho0, hb⟩; refine ⟨_, rfl, ?_⟩; have n0_ := Aside0.mk (Kd.R_elder' (by (with_reducible repeat (first | apply Kd.R_alloc | apply Kd.R_drewN | apply Kd.R_drew)); exact HO231.out) (Kd.R_base ho0) hb); have n1_ := Aside0.mk (Kd.R_lower (Kd.R_new' ho0 (Kd.R_lt (by (with_reducible repeat (first | apply Kd.R_alloc | apply Kd.R_drewN | apply Kd.R_drew)); exact HO231.out))) (below_size (by repeat (first | (with_reducible first | exact HB.out | apply below_alloc | apply pw_below_drewN | apply below_drew1) | exact HB.out)))); have n2_ := Aside0.mk (below_step (by repeat (first | (with_reducible first | exact HB.out | apply below_alloc | apply pw_below_drewN | apply below_drew1) | exact HB.out)) hb); clear HO231; clear HB; have HO231 := n0_; have HO235 := n1_; have HB := n2_; clear n0_ n1_ n2_; (try clear hb); (try clear hb2); (try clear hk); (try clear hi); (try clear ho0); obtain ⟨Ao37, co37, eo37⟩ := Kd.R_slice HO231.out; subst eo37; have p236 : 0 ≤ (0 : Int) := (by omega); have q236 : 0 < (t228.length : Int) := of_decide_eq_true (by first | (with_reducible assumption) | assumption); obtain ⟨ad236, e236, hx236_0, hx236_1, hx236_2, hx236_3, hx236_4⟩ := at_T46 (Kd.R_reads' HO231.out).2.2 0 p236 q236; cases e236; have qi236 : (0 < t228.length) = True := eq_true (by omega); (try rw [show ((0 : Int)).toNat = 0 from rfl] at hx236_0); (try rw [show 0 * 5 = 0 from rfl] at hx236_0); (try rw [Addr.add_zero'] at hx236_0); (try rw [show ((0 : Int)).toNat = 0 from rfl] at hx236_1); (try rw [show 0 * 5 = 0 from rfl] at hx236_1); (try rw [Addr.add_zero'] at hx236_1); (try rw [show ((0 : Int)).toNat = 0 from rfl] at hx236_2); (try rw [show 0 * 5 = 0 from rfl] at hx236_2); (try rw [Addr.add_zero'] at hx236_2); (try rw [show ((0 : Int)).toNat = 0 from rfl] at hx236_3); (try rw [show 0 * 5 = 0 from rfl] at hx236_3); (try rw [Addr.add_zero'] at hx236_3); (try rw [show ((0 : Int)).toNat = 0 from rfl] at hx236_4); (try rw [show 0 * 5 = 0 from rfl] at hx236_4); (try rw [Addr.add_zero'] at hx236_4); replace p236 := eq_true p236; replace q236 := eq_true q236))
            go_ret
            exact ⟨by first | rfl | (simp [errW_none, errW_some] <;> rfl) | (simp [*, errW_none, errW_some] <;> rfl), by repeat (first | (with_reducible first | exact HB.out | apply below_alloc | apply pw_below_drewN | apply below_drew1) | exact HB.out)⟩
        · rw [if_neg c6] at H
          exact absurd H (by simp)
      · rw [if_neg c5] at H
        have c5b0 : ((t228.length : Int) == 5) = false := beq_eq_false_iff_ne.mpr c5
        have c5b1 : ((t228.length : Int) != 5) = true := bne_iff_ne.mpr c5
        obtain rfl := Option.some.inj H
        go_enter Try.func37, Try.ntmps37
        go_wp2_with (first | ((with_reducible refine gate_callee (f := 39) rfl ?_); refine goesL_ (some 6) rfl rfl Try.func39 (by kernel_rfl) rfl #[.string (⟨#[60, 97, 32, 98, 61, 39, 49, 39, 62, 120, 38, 97, 109, 112, 59, 121, 60, 47, 97, 62]⟩ : ByteArray)] rfl (by (try simp only [List.map_toArray, List.map_cons, List.map_nil]); first | done | rfl | (simp only [List.length_drop, List.length_take]; rfl)) ?_; (with_reducible refine (lexer_Lex.calls (⟨#[60, 97, 32, 98, 61, 39, 49, 39, 62, 120, 38, 97, 109, 112, 59, 121, 60, 47, 97, 62]⟩ : ByteArray) t228 t229 _ (by first | exact hG | exact G.below hG (by repeat (first | (with_reducible first | exact HB.out | apply below_alloc | apply pw_below_drewN | apply below_drew1) | exact HB.out))) A1.out).mono ?_); rintro e w38 ⟨v230, rfl, ho0, hb⟩; refine ⟨_, rfl, ?_⟩; have n0_ := Aside0.mk (Kd.R_lower ho0 (below_size (by repeat (first | (with_reducible first | exact HB.out | apply below_alloc | apply pw_below_drewN | apply below_drew1) | exact HB.out)))); have n1_ := Aside0.mk (below_step (by repeat (first | (with_reducible first | exact HB.out | apply below_alloc | apply pw_below_drewN | apply below_drew1) | exact HB.out)) hb); clear HB; have HO231 := n0_; have HB := n1_; clear n0_ n1_; (try clear hb); (try clear hb2); (try clear hk); (try clear hi); (try clear ho0)) | ((with_reducible refine gate_callee (f := 39) rfl ?_); refine goesL_ (some 10) rfl rfl Try.func39 (by kernel_rfl) rfl #[.string (⟨#[60, 97, 32, 98, 62]⟩ : ByteArray)] rfl (by (try simp only [List.map_toArray, List.map_cons, List.map_nil]); first | done | rfl | (simp only [List.length_drop, List.length_take]; rfl)) ?_; (with_reducible refine (lexer_Lex.calls (⟨#[60, 97, 32, 98, 62]⟩ : ByteArray) t232 t233 _ (by first | exact hG | exact G.below hG (by repeat (first | (with_reducible first | exact HB.out | apply below_alloc | apply pw_below_drewN | apply below_drew1) | exact HB.out))) A2.out).mono ?_); rintro e w39 ⟨v234, rfl, ho0, hb⟩; refine ⟨_, rfl, ?_⟩; have n0_ := Aside0.mk (Kd.R_elder' (by (with_reducible repeat (first | apply Kd.R_alloc | apply Kd.R_drewN | apply Kd.R_drew)); exact HO231.out) (Kd.R_base ho0) hb); have n1_ := Aside0.mk (Kd.R_lower (Kd.R_new' ho0 (Kd.R_lt (by (with_reducible repeat (first | apply Kd.R_alloc | apply Kd.R_drewN | apply Kd.R_drew)); exact HO231.out))) (below_size (by repeat (first | (with_reducible first | exact HB.out | apply below_alloc | apply pw_below_drewN | apply below_drew1) | exact HB.out)))); have n2_ := Aside0.mk (below_step (by repeat (first | (with_reducible first | exact HB.out | apply below_alloc | apply pw_below_drewN | apply below_drew1) | exact HB.out)) hb); clear HO231; clear HB; have HO231 := n0_; have HO235 := n1_; have HB := n2_; clear n0_ n1_ n2_; (try clear hb); (try clear hb2); (try clear hk); (try clear hi); (try clear ho0); obtain ⟨Ao40, co40, eo40⟩ := Kd.R_slice HO231.out; subst eo40))
        go_ret
        exact ⟨by first | rfl | (simp [errW_none, errW_some] <;> rfl) | (simp [*, errW_none, errW_some] <;> rfl), by repeat (first | (with_reducible first | exact HB.out | apply below_alloc | apply pw_below_drewN | apply below_drew1) | exact HB.out)⟩
    · rw [if_neg c4] at H
      have c4b0 : (t233 == 15) = false := beq_eq_false_iff_ne.mpr c4
      have c4b1 : (t233 != 15) = true := bne_iff_ne.mpr c4
      obtain rfl := Option.some.inj H
      go_enter Try.func37, Try.ntmps37
      go_wp2_with (first | ((with_reducible refine gate_callee (f := 39) rfl ?_); refine goesL_ (some 6) rfl rfl Try.func39 (by kernel_rfl) rfl #[.string (⟨#[60, 97, 32, 98, 61, 39, 49, 39, 62, 120, 38, 97, 109, 112, 59, 121, 60, 47, 97, 62]⟩ : ByteArray)] rfl (by (try simp only [List.map_toArray, List.map_cons, List.map_nil]); first | done | rfl | (simp only [List.length_drop, List.length_take]; rfl)) ?_; (with_reducible refine (lexer_Lex.calls (⟨#[60, 97, 32, 98, 61, 39, 49, 39, 62, 120, 38, 97, 109, 112, 59, 121, 60, 47, 97, 62]⟩ : ByteArray) t228 t229 _ (by first | exact hG | exact G.below hG (by repeat (first | (with_reducible first | exact HB.out | apply below_alloc | apply pw_below_drewN | apply below_drew1) | exact HB.out))) A1.out).mono ?_); rintro e w41 ⟨v230, rfl, ho0, hb⟩; refine ⟨_, rfl, ?_⟩; have n0_ := Aside0.mk (Kd.R_lower ho0 (below_size (by repeat (first | (with_reducible first | exact HB.out | apply below_alloc | apply pw_below_drewN | apply below_drew1) | exact HB.out)))); have n1_ := Aside0.mk (below_step (by repeat (first | (with_reducible first | exact HB.out | apply below_alloc | apply pw_below_drewN | apply below_drew1) | exact HB.out)) hb); clear HB; have HO231 := n0_; have HB := n1_; clear n0_ n1_; (try clear hb); (try clear hb2); (try clear hk); (try clear hi); (try clear ho0)) | ((with_reducible refine gate_callee (f := 39) rfl ?_); refine goesL_ (some 10) rfl rfl Try.func39 (by kernel_rfl) rfl #[.string (⟨#[60, 97, 32, 98, 62]⟩ : ByteArray)] rfl (by (try simp only [List.map_toArray, List.map_cons, List.map_nil]); first | done | rfl | (simp only [List.length_drop, List.length_take]; rfl)) ?_; (with_reducible refine (lexer_Lex.calls (⟨#[60, 97, 32, 98, 62]⟩ : ByteArray) t232 t233 _ (by first | exact hG | exact G.below hG (by repeat (first | (with_reducible first | exact HB.out | apply below_alloc | apply pw_below_drewN | apply below_drew1) | exact HB.out))) A2.out).mono ?_); rintro e w42 ⟨v234, rfl, ho0, hb⟩; refine ⟨_, rfl, ?_⟩; have n0_ := Aside0.mk (Kd.R_elder' (by (with_reducible repeat (first | apply Kd.R_alloc | apply Kd.R_drewN | apply Kd.R_drew)); exact HO231.out) (Kd.R_base ho0) hb); have n1_ := Aside0.mk (Kd.R_lower (Kd.R_new' ho0 (Kd.R_lt (by (with_reducible repeat (first | apply Kd.R_alloc | apply Kd.R_drewN | apply Kd.R_drew)); exact HO231.out))) (below_size (by repeat (first | (with_reducible first | exact HB.out | apply below_alloc | apply pw_below_drewN | apply below_drew1) | exact HB.out)))); have n2_ := Aside0.mk (below_step (by repeat (first | (with_reducible first | exact HB.out | apply below_alloc | apply pw_below_drewN | apply below_drew1) | exact HB.out)) hb); clear HO231; clear HB; have HO231 := n0_; have HO235 := n1_; have HB := n2_; clear n0_ n1_ n2_; (try clear hb); (try clear hb2); (try clear hk); (try clear hi); (try clear ho0)))
      go_ret
      exact ⟨by first | rfl | (simp [errW_none, errW_some] <;> rfl) | (simp [*, errW_none, errW_some] <;> rfl), by repeat (first | (with_reducible first | exact HB.out | apply below_alloc | apply pw_below_drewN | apply below_drew1) | exact HB.out)⟩
  · rw [if_neg c3] at H
    have c3b0 : (t229 == 0) = false := beq_eq_false_iff_ne.mpr c3
    have c3b1 : (t229 != 0) = true := bne_iff_ne.mpr c3
    obtain rfl := Option.some.inj H
    go_enter Try.func37, Try.ntmps37
    go_wp2_with (first | ((with_reducible refine gate_callee (f := 39) rfl ?_); refine goesL_ (some 6) rfl rfl Try.func39 (by kernel_rfl) rfl #[.string (⟨#[60, 97, 32, 98, 61, 39, 49, 39, 62, 120, 38, 97, 109, 112, 59, 121, 60, 47, 97, 62]⟩ : ByteArray)] rfl (by (try simp only [List.map_toArray, List.map_cons, List.map_nil]); first | done | rfl | (simp only [List.length_drop, List.length_take]; rfl)) ?_; (with_reducible refine (lexer_Lex.calls (⟨#[60, 97, 32, 98, 61, 39, 49, 39, 62, 120, 38, 97, 109, 112, 59, 121, 60, 47, 97, 62]⟩ : ByteArray) t228 t229 _ (by first | exact hG | exact G.below hG (by repeat (first | (with_reducible first | exact HB.out | apply below_alloc | apply pw_below_drewN | apply below_drew1) | exact HB.out))) A1.out).mono ?_); rintro e w43 ⟨v230, rfl, ho0, hb⟩; refine ⟨_, rfl, ?_⟩; have n0_ := Aside0.mk (Kd.R_lower ho0 (below_size (by repeat (first | (with_reducible first | exact HB.out | apply below_alloc | apply pw_below_drewN | apply below_drew1) | exact HB.out)))); have n1_ := Aside0.mk (below_step (by repeat (first | (with_reducible first | exact HB.out | apply below_alloc | apply pw_below_drewN | apply below_drew1) | exact HB.out)) hb); clear HB; have HO231 := n0_; have HB := n1_; clear n0_ n1_; (try clear hb); (try clear hb2); (try clear hk); (try clear hi); (try clear ho0)) | ((with_reducible refine gate_callee (f := 39) rfl ?_); refine goesL_ (some 10) rfl rfl Try.func39 (by kernel_rfl) rfl #[.string (⟨#[60, 97, 32, 98, 62]⟩ : ByteArray)] rfl (by (try simp only [List.map_toArray, List.map_cons, List.map_nil]); first | done | rfl | (simp only [List.length_drop, List.length_take]; rfl)) ?_; (with_reducible refine (lexer_Lex.calls (⟨#[60, 97, 32, 98, 62]⟩ : ByteArray) t232 t233 _ (by first | exact hG | exact G.below hG (by repeat (first | (with_reducible first | exact HB.out | apply below_alloc | apply pw_below_drewN | apply below_drew1) | exact HB.out))) A2.out).mono ?_); rintro e w44 ⟨v234, rfl, ho0, hb⟩; refine ⟨_, rfl, ?_⟩; have n0_ := Aside0.mk (Kd.R_elder' (by (with_reducible repeat (first | apply Kd.R_alloc | apply Kd.R_drewN | apply Kd.R_drew)); exact HO231.out) (Kd.R_base ho0) hb); have n1_ := Aside0.mk (Kd.R_lower (Kd.R_new' ho0 (Kd.R_lt (by (with_reducible repeat (first | apply Kd.R_alloc | apply Kd.R_drewN | apply Kd.R_drew)); exact HO231.out))) (below_size (by repeat (first | (with_reducible first | exact HB.out | apply below_alloc | apply pw_below_drewN | apply below_drew1) | exact HB.out)))); have n2_ := Aside0.mk (below_step (by repeat (first | (with_reducible first | exact HB.out | apply below_alloc | apply pw_below_drewN | apply below_drew1) | exact HB.out)) hb); clear HO231; clear HB; have HO231 := n0_; have HO235 := n1_; have HB := n2_; clear n0_ n1_ n2_; (try clear hb); (try clear hb2); (try clear hk); (try clear hi); (try clear ho0)))
    go_ret
    exact ⟨by first | rfl | (simp [errW_none, errW_some] <;> rfl) | (simp [*, errW_none, errW_some] <;> rfl), by repeat (first | (with_reducible first | exact HB.out | apply below_alloc | apply pw_below_drewN | apply below_drew1) | exact HB.out)⟩
def topiarylaw12_short.f (a0 : ByteArray) (a1 : Int) : Option (ByteArray) := if (a0.size : Int) > a1 then (if 0 ≤ a1 then (if a1 ≤ (a0.size : Int) then (some (a0.extract 0 (a1 : Int).toNat)) else (none)) else (none)) else (some a0)
set_option maxHeartbeats 8000000 in
set_option maxRecDepth 100000 in
theorem topiarylaw12_short.calls (a0 : ByteArray) (a1 : Int) (r : ByteArray) (w : World) (h : topiarylaw12_short.f a0 a1 = some r) :
    Calls Try.prog 38 #[.string a0, .int .i64 a1] w fun e w' => e = .returned (.string r) ∧ Drawn0 w w' := by
  have H : (if (a0.size : Int) > a1 then (if 0 ≤ a1 then (if a1 ≤ (a0.size : Int) then (some (a0.extract 0 (a1 : Int).toNat)) else (none)) else (none)) else (some a0)) = some r := h
  clear h
  by_cases c3 : (a0.size : Int) > a1
  · rw [if_pos c3] at H
    have c3b0 : decide (a1 < (a0.size : Int)) = true := decide_eq_true c3
    clear c3
    by_cases c4 : 0 ≤ a1
    · rw [if_pos c4] at H
      have c4b0 := eq_true c4
      have c4b1 : decide (0 ≤ a1) = true := decide_eq_true c4
      clear c4
      by_cases c5 : a1 ≤ (a0.size : Int)
      · rw [if_pos c5] at H
        have c5b0 := eq_true c5
        have c5b1 : decide (a1 ≤ (a0.size : Int)) = true := decide_eq_true c5
        clear c5
        obtain rfl := Option.some.inj H
        go_enter Try.func38, Try.ntmps38
        go_wp2
        go_ret
        exact ⟨by first | rfl | (simp; done) | (simp [*]; done), by repeat (first | exact Drawn0.refl _ | apply Drawn0.step)⟩
      · rw [if_neg c5] at H
        exact absurd H (by simp)
    · rw [if_neg c4] at H
      exact absurd H (by simp)
  · rw [if_neg c3] at H
    have c3b0 : decide (a1 < (a0.size : Int)) = false := decide_eq_false c3
    clear c3
    obtain rfl := Option.some.inj H
    go_enter Try.func38, Try.ntmps38
    go_wp2
    go_ret
    exact ⟨by first | rfl | (simp; done) | (simp [*]; done), by repeat (first | exact Drawn0.refl _ | apply Drawn0.step)⟩
end Go.Proofs.Ytekkaoenabjeiaa.Q
end
