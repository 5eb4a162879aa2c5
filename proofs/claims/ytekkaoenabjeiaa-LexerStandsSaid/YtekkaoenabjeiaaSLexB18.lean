/- Parts of the proof of lexerStands_holds lexerTexts_holds lexerLimit_holds, kept and merged by a program of mine (wip/tools/slim.py) out of my texts: P11d LexJ Q23 Q26 P12w PureLexerStands Q29 -/
import Derived.Test.YtekkaoenabjeiaaSLexB4
import Derived.Test.YtekkaoenabjeiaaSLexB15
import Derived.Test.YtekkaoenabjeiaaSLexB13
import Derived.Test.YtekkaoenabjeiaaSLexB8
import Derived.Test.YtekkaoenabjeiaaSLexB16
import Derived.Test.YtekkaoenabjeiaaSLexB11
import Derived.Test.YtekkaoenabjeiaaSLexB5
import Derived.Test.YtekkaoenabjeiaaSLexB17
import Derived.Test.YtekkaoenabjeiaaSLexB14
section
set_option linter.unusedVariables false
set_option linter.unusedSimpArgs false
namespace Go.Proofs.Ytekkaoenabjeiaa.P11
open Go Go.RowKit Go.Proofs.Ytekkaoenabjeiaa Go.Proofs.Ytekkaoenabjeiaa.Q Go.Proofs.YtekkaoenabjeiaaW.PrintWords Go.Proofs.Ytekkaoenabjeiaa.X Go.Proofs.Ytekkaoenabjeiaa.RefE
def lessN (n : Nat) : Int := if n = 2 then 192 else if n = 3 then 224 else if n = 4 then 240 else 0
def codeGo : Int → List UInt8 → Int
  | c, [] => c
  | c, b :: t => codeGo (c * 64 + (b.toNat : Int) - 128) t
def refCode (n : Nat) : List UInt8 → Int
  | [] => 0
  | b :: t => codeGo ((b.toNat : Int) - lessN n) (t.take (n - 1))
theorem refCode_enc (c : Int) (hp : pointB c = true) (t : List UInt8) : refCode (sizeN c).toNat (encL c ++ t) = c := by
  have hb := point_range hp
  unfold encL sizeN
  rw [if_pos hp]
  by_cases h1 : c < 128
  · rw [if_pos h1, if_pos h1]
    have e0 := byteI_nat c hb.1 (by omega)
    show codeGo ((byteI c).toNat - lessN 1) [] = c
    rw [codeGo, show lessN 1 = 0 from rfl]; omega
  rw [if_neg h1, if_neg h1]
  by_cases h2 : c < 2048
  · rw [if_pos h2, if_pos h2]
    have e0 := byteI_nat (192 + c / 64) (by omega) (by omega)
    have e1 := byteI_nat (128 + c % 64) (by omega) (by omega)
    show codeGo ((byteI (192 + c / 64)).toNat - lessN 2) [byteI (128 + c % 64)] = c
    rw [codeGo, codeGo, show lessN 2 = 192 from rfl]; omega
  rw [if_neg h2, if_neg h2]
  by_cases h3 : c < 65536
  · rw [if_pos h3, if_pos h3]
    have e0 := byteI_nat (224 + c / 4096) (by omega) (by omega)
    have e1 := byteI_nat (128 + c / 64 % 64) (by omega) (by omega)
    have e2 := byteI_nat (128 + c % 64) (by omega) (by omega)
    show codeGo ((byteI (224 + c / 4096)).toNat - lessN 3) [byteI (128 + c / 64 % 64), byteI (128 + c % 64)] = c
    rw [codeGo, codeGo, codeGo, show lessN 3 = 224 from rfl]; omega
  rw [if_neg h3, if_neg h3]
  have e0 := byteI_nat (240 + c / 262144) (by omega) (by omega)
  have e1 := byteI_nat (128 + c / 4096 % 64) (by omega) (by omega)
  have e2 := byteI_nat (128 + c / 64 % 64) (by omega) (by omega)
  have e3 := byteI_nat (128 + c % 64) (by omega) (by omega)
  show codeGo ((byteI (240 + c / 262144)).toNat - lessN 4) [byteI (128 + c / 4096 % 64), byteI (128 + c / 64 % 64), byteI (128 + c % 64)] = c
  rw [codeGo, codeGo, codeGo, codeGo, show lessN 4 = 240 from rfl]; omega
def tryN (n : Nat) (l : List UInt8) : Bool := decide (encL (refCode n l) ≠ []) && (encL (refCode n l) == l.take n)
theorem try_yes (n : Nat) (l : List UInt8) (hn : n ≤ l.length) (h : tryN n l = true) : decL l = (refCode n l, (n : Int)) := by
  unfold tryN at h
  simp only [Bool.and_eq_true, decide_eq_true_eq, beq_iff_eq] at h
  obtain ⟨h1, h2⟩ := h
  have hp : pointB (refCode n l) = true := by
    by_cases hp : pointB (refCode n l) = true
    · exact hp
    · exact absurd ((enc_nil _).2 (by simpa using hp)) h1
  have hl := enc_len _ hp
  have hd := dec_enc _ hp (l.drop n)
  rw [h2, List.take_append_drop] at hd
  rw [hd]
  congr 1
  rw [← hl, h2, List.length_take]
  omega
theorem try_at (l : List UInt8) (h : ¬ (decL l).2 = 0) : tryN (decL l).2.toNat l = true ∧ 1 ≤ (decL l).2.toNat ∧ (decL l).2.toNat ≤ 4 ∧ (decL l).2.toNat ≤ l.length := by
  obtain ⟨hp, hs, t, ht⟩ := enc_dec l h
  have hr := dec_range l
  have hl := enc_len _ hp
  refine ⟨?_, by omega, by omega, by omega⟩
  have hc : refCode (decL l).2.toNat l = (decL l).1 := by
    have := refCode_enc _ hp t
    rw [← ht, ← hs] at this
    exact this
  unfold tryN
  rw [hc]
  simp only [Bool.and_eq_true, decide_eq_true_eq, beq_iff_eq]
  refine ⟨fun e => ?_, ?_⟩
  · rw [e] at hl
    have := sizeN_range (decL l).1
    simp at hl; omega
  · have : l.take (decL l).2.toNat = (encL (decL l).1 ++ t).take (decL l).2.toNat := by rw [← ht]
    rw [this, hs, ← hl, Int.toNat_natCast, List.take_left]
def triesFrom (l : List UInt8) : Nat → Nat → Int × Int
  | 0, _ => (-1, 0)
  | d + 1, n => if n ≤ l.length then (if tryN n l then (refCode n l, (n : Int)) else triesFrom l d (n + 1)) else (-1, 0)
theorem tries_eq (l : List UInt8) : triesFrom l 4 1 = decL l := by
  have hno : ∀ d n, n + d = 5 → (∀ m, 1 ≤ m → m < n → tryN m l = true → ¬ m ≤ l.length) → triesFrom l d n = decL l := by
    intro d
    induction d with
    | zero =>
      intro n hn h
      rw [triesFrom]
      by_cases h0 : (decL l).2 = 0
      · exact (dec_none l h0).symm
      · obtain ⟨a, b, c, e⟩ := try_at l h0
        exact absurd e (h _ b (by omega) a)
    | succ d ih =>
      intro n hn h
      rw [triesFrom]
      by_cases hl : n ≤ l.length
      · rw [if_pos hl]
        by_cases ht : tryN n l = true
        · rw [if_pos ht]
          exact (try_yes n l hl ht).symm
        · rw [if_neg ht]
          refine ih (n + 1) (by omega) fun m h1 h2 h3 => ?_
          by_cases hm : m = n
          · subst hm; exact absurd h3 ht
          · exact h m h1 (by omega) h3
      · rw [if_neg hl]
        by_cases h0 : (decL l).2 = 0
        · exact (dec_none l h0).symm
        · obtain ⟨a, b, c, e⟩ := try_at l h0
          by_cases hm : (decL l).2.toNat < n
          · exact absurd e (h _ b hm a)
          · omega
  exact hno 4 1 rfl fun m h1 h2 => by omega
theorem code_bound : ∀ (t : List UInt8) (c : Int), t.length ≤ 3 → -1000 ≤ c → c ≤ 1000 → -300000000 ≤ codeGo c t ∧ codeGo c t ≤ 300000000 := by
  intro t c h h0 h1
  match t, h with
  | [], _ => rw [codeGo]; omega
  | [x], _ => have := x.toNat_lt; rw [codeGo, codeGo]; omega
  | [x, y], _ => have := x.toNat_lt; have := y.toNat_lt; rw [codeGo, codeGo, codeGo]; omega
  | [x, y, z], _ => have := x.toNat_lt; have := y.toNat_lt; have := z.toNat_lt; rw [codeGo, codeGo, codeGo, codeGo]; omega
def endOf (k : Nat) (s : ByteArray) (a n : Nat) (code : Int) : Option (Int × Int) :=
  if encL code = [] then topiaryref11_Rune.l0 k s a ((n : Int) + 1) else if encL code = (s.data.toList.drop a).take n then some (code, (n : Int)) else topiaryref11_Rune.l0 k s a ((n : Int) + 1)
theorem rune_l1 (s : ByteArray) (a n : Nat) (hs : s.size ≤ 4294967296) (hn : n ≤ 4) (ha : a + n ≤ s.size) (d : Nat) : ∀ (i k : Nat) (c : Int), i + d = n → 1 ≤ i → i ≤ 4 → -300000000 ≤ c → c ≤ 300000000 →
    (∀ j, j ≤ d → -300000000 ≤ codeGo c ((s.data.toList.drop (a + i)).take j) ∧ codeGo c ((s.data.toList.drop (a + i)).take j) ≤ 300000000) →
    topiaryref11_Rune.l1 (k + d + 1) s a n c i = endOf k s a n (codeGo c ((s.data.toList.drop (a + i)).take d)) := by
  induction d with
  | zero =>
    intro i k c hi h1 h4 hc0 hc1 hall
    rw [topiaryref11_Rune.l1, if_neg (by omega), encode_f, Option.bind_some, List.take_zero, codeGo, Lib.toList_data]
    unfold endOf
    have hdat : (⟨(encL c).toArray⟩ : ByteArray).data.toList = encL c := rfl
    rw [hdat, wr ((n : Int) + 1) (by omega) (by omega)]
    by_cases he : encL c = []
    · rw [if_pos he, if_pos he]
    rw [if_neg he, if_neg he, if_pos (by omega), wr ((a : Int) + (n : Int)) (by omega) (by omega), if_pos (by omega), if_pos (by omega), Lib.extract_toList, Int.toNat_natCast, show ((a : Int) + (n : Int)).toNat - a = n from by omega]
  | succ d ih =>
    intro i k c hi h1 h4 hc0 hc1 hall
    have hlt : a + i < s.size := by omega
    rw [show k + (d + 1) + 1 = (k + d + 1) + 1 from by omega, topiaryref11_Rune.l1, if_pos (by omega)]
    have hw : wrap64 ((a : Int) + (i : Int)) = ((a + i : Nat) : Int) := by rw [wr _ (by omega) (by omega)]; omega
    rw [hw, if_pos (by omega), if_pos (by omega), if_neg (by omega), bt_get s _ hlt, drop_cons s _ hlt, List.take_succ_cons, codeGo]
    obtain ⟨x, hx⟩ : ∃ x, s[a + i] = x := ⟨_, rfl⟩
    rw [hx]
    have hxl := x.toNat_lt
    have hall' : ∀ j, j ≤ d → -300000000 ≤ codeGo (c * 64 + (x.toNat : Int) - 128) ((s.data.toList.drop (a + i + 1)).take j) ∧ codeGo (c * 64 + (x.toNat : Int) - 128) ((s.data.toList.drop (a + i + 1)).take j) ≤ 300000000 := by
      intro j hj
      have := hall (j + 1) (by omega)
      rw [drop_cons s _ hlt, List.take_succ_cons, codeGo, hx] at this
      exact this
    have h0 := hall' 0 (by omega)
    rw [List.take_zero, codeGo] at h0
    rw [wr (c * 64) (by omega) (by omega), wr (x.toNat : Int) (by omega) (by omega), wr (c * 64 + (x.toNat : Int)) (by omega) (by omega), wr (c * 64 + (x.toNat : Int) - 128) (by omega) (by omega), wr ((i : Int) + 1) (by omega) (by omega)]
    have := ih (i + 1) k (c * 64 + (x.toNat : Int) - 128) (by omega) (by omega) (by omega) h0.1 h0.2 hall'
    rw [show ((i + 1 : Nat) : Int) = (i : Int) + 1 from by omega, show a + (i + 1) = a + i + 1 from by omega] at this
    exact this
theorem rune_try (s : ByteArray) (a n : Nat) (hs : s.size ≤ 4294967296) (h1 : 1 ≤ n) (hn : n ≤ 4) (ha : a + n ≤ s.size) (k : Nat) :
    topiaryref11_Rune.l1 (k + n + 2) s a n 0 0 = endOf k s a n (refCode n (s.data.toList.drop a)) := by
  have hlt : a < s.size := by omega
  rw [topiaryref11_Rune.l1, if_pos (by omega)]
  have hw : wrap64 ((a : Int) + 0) = (a : Int) := by rw [wr _ (by omega) (by omega)]; omega
  rw [hw, if_pos (by omega), if_pos (by omega), if_pos rfl, bt_get s _ hlt, drop_cons s _ hlt]
  obtain ⟨x, hx⟩ : ∃ x, s[a] = x := ⟨_, rfl⟩
  rw [hx]
  have hxl := x.toNat_lt
  rw [wr (x.toNat : Int) (by omega) (by omega)]
  have hless : 0 ≤ lessN n ∧ lessN n ≤ 240 := by unfold lessN; repeat' split <;> omega
  have hj : ∀ y : Int, (n ≠ 3 → n ≠ 4 → y = lessN n) → topiaryref11_Rune.j4 (k + n + 1) s a n 0 (x.toNat : Int) y = topiaryref11_Rune.l1 (k + n) s a n ((x.toNat : Int) - lessN n) 1 := by
    intro y hy
    rw [topiaryref11_Rune.j4]
    by_cases h3 : n = 3
    · subst h3
      rw [if_pos (by omega), if_neg (by omega), wr _ (by omega) (by omega), wr _ (by omega) (by omega)]
      rfl
    · rw [if_neg (by omega)]
      by_cases h4 : n = 4
      · subst h4
        rw [if_pos (by omega), wr _ (by omega) (by omega), wr _ (by omega) (by omega)]
        rfl
      · rw [if_neg (by omega), hy h3 h4, wr _ (by omega) (by omega), wr _ (by omega) (by omega)]
        rfl
  have hfin : topiaryref11_Rune.l1 (k + n) s a n ((x.toNat : Int) - lessN n) 1 = endOf k s a n (refCode n (x :: s.data.toList.drop (a + 1))) := by
    have hb : ∀ j, j ≤ n - 1 → -300000000 ≤ codeGo ((x.toNat : Int) - lessN n) ((s.data.toList.drop (a + 1)).take j) ∧ codeGo ((x.toNat : Int) - lessN n) ((s.data.toList.drop (a + 1)).take j) ≤ 300000000 :=
      fun j hj => code_bound _ _ (by rw [List.length_take]; omega) (by omega) (by omega)
    have := rune_l1 s a n hs hn ha (n - 1) 1 k ((x.toNat : Int) - lessN n) (by omega) (by omega) (by omega) (by omega) (by omega) hb
    rw [show k + (n - 1) + 1 = k + n from by omega] at this
    exact this
  by_cases h2 : n = 2
  · subst h2
    rw [if_pos (by rfl), hj 192 (fun _ _ => rfl), hfin]
  · rw [if_neg (by omega), hj 0 (fun h3 h4 => by unfold lessN; rw [if_neg h2, if_neg h3, if_neg h4]), hfin]
theorem rune_l0 (s : ByteArray) (a : Nat) (hs : s.size ≤ 4294967296) (ha : a < s.size) (d : Nat) : ∀ (n k : Nat), n + d = 5 → 1 ≤ n → 10 * d + 2 ≤ k →
    topiaryref11_Rune.l0 k s a n = some (triesFrom (s.data.toList.drop a) d n) := by
  have hlen : (s.data.toList.drop a).length = s.size - a := by rw [List.length_drop, len_data]
  induction d with
  | zero =>
    intro n k hn h1 hk
    obtain ⟨k, rfl⟩ : ∃ m, k = m + 2 := ⟨k - 2, by omega⟩
    rw [topiaryref11_Rune.l0, if_neg (by omega), topiaryref11_Rune.j2, if_neg (by decide), triesFrom]
  | succ d ih =>
    intro n k hn h1 hk
    obtain ⟨k, rfl⟩ : ∃ m, k = m + n + 4 := ⟨k - n - 4, by omega⟩
    rw [topiaryref11_Rune.l0, if_pos (by omega), wr ((s.size : Int) - (a : Int)) (by omega) (by omega), triesFrom]
    by_cases hl : n ≤ (s.data.toList.drop a).length
    · rw [if_pos hl, show decide ((n : Int) ≤ (s.size : Int) - (a : Int)) = true from by simp; omega, topiaryref11_Rune.j2, if_pos rfl, rune_try s a n hs h1 (by omega) (by omega)]
      unfold endOf
      have hr := ih (n + 1) k (by omega) (by omega) (by omega)
      rw [show ((n + 1 : Nat) : Int) = (n : Int) + 1 from by omega] at hr
      by_cases he : encL (refCode n (s.data.toList.drop a)) = []
      · have ht : tryN n (s.data.toList.drop a) = false := by unfold tryN; simp [he]
        rw [if_pos he, ht, hr]; rfl
      · rw [if_neg he]
        by_cases he2 : encL (refCode n (s.data.toList.drop a)) = (s.data.toList.drop a).take n
        · have ht : tryN n (s.data.toList.drop a) = true := by unfold tryN; simp [he, ← he2]
          rw [if_pos he2, ht]; rfl
        · have ht : tryN n (s.data.toList.drop a) = false := by unfold tryN; simp [he2]
          rw [if_neg he2, ht, hr]; rfl
    · rw [if_neg hl, show decide ((n : Int) ≤ (s.size : Int) - (a : Int)) = false from by simp; omega, topiaryref11_Rune.j2, if_neg (by decide)]
theorem ref_rune_f (s : ByteArray) (a : Int) (hs : s.size ≤ 4294967296) (k : Nat) : topiaryref11_Rune.f (k + 43) s a = some (runeP s.data.toList a) := by
  have hl := len_data s
  unfold topiaryref11_Rune.f runeP
  by_cases h0 : a < 0
  · rw [if_pos h0, topiaryref11_Rune.j0, if_pos rfl, if_neg (by omega)]
  rw [if_neg h0]
  by_cases h1 : a ≥ (s.size : Int)
  · rw [show decide (a ≥ (s.size : Int)) = true from by simpa using h1, topiaryref11_Rune.j0, if_pos rfl, if_neg (by omega)]
  · obtain ⟨n, rfl⟩ := Int.eq_ofNat_of_zero_le (by omega : 0 ≤ a)
    rw [show decide ((n : Int) ≥ (s.size : Int)) = false from by simpa using h1, topiaryref11_Rune.j0, if_neg (by decide), if_pos (by omega), Int.toNat_natCast]
    have := rune_l0 s n hs (by omega) 4 1 (k + 42) rfl (by omega) (by omega)
    rw [tries_eq] at this
    exact this
theorem valid_at (s : ByteArray) (n : Nat) (hn : n < s.size) : validL (s.data.toList.drop n) = (decide (0 < (runeP s.data.toList n).2) && allowedB (runeP s.data.toList n).1 && validL (s.data.toList.drop (n + (runeP s.data.toList n).2.toNat))) := by
  have hp : runeP s.data.toList (n : Int) = decL (s.data.toList.drop n) := by
    unfold runeP
    rw [if_pos ⟨by omega, by rw [len_data]; omega⟩, Int.toNat_natCast]
  rw [hp, drop_cons s n hn, valid_cons, ← drop_cons s n hn, List.drop_drop]
theorem ref_valid_l0 (s : ByteArray) (hs : s.size ≤ 4294967296) (d : Nat) : ∀ (n k : Nat), s.size - n = d → n ≤ s.size → d + 50 ≤ k → topiaryref11_Valid.l0 k s n = some (validL (s.data.toList.drop n)) := by
  induction d using Nat.strongRecOn with
  | ind d ih =>
    intro n k hd hn hk
    obtain ⟨k, rfl⟩ : ∃ m, k = m + 1 := ⟨k - 1, by omega⟩
    rw [topiaryref11_Valid.l0]
    by_cases hlt : n < s.size
    · rw [if_pos (by omega), show k = (k - 43) + 43 from by omega, ref_rune_f s n hs, Option.bind_some, allowed_f, Option.bind_some, valid_at s n hlt]
      have hp : runeP s.data.toList (n : Int) = decL (s.data.toList.drop n) := by
        unfold runeP
        rw [if_pos ⟨by omega, by rw [len_data]; omega⟩, Int.toNat_natCast]
      have hr := dec_range (s.data.toList.drop n)
      rw [← hp, List.length_drop, len_data] at hr
      by_cases h0 : (runeP s.data.toList (n : Int)).2 = 0
      · rw [if_pos h0, h0]; rfl
      · rw [if_neg h0, show decide (0 < (runeP s.data.toList (n : Int)).2) = true from by simp; omega, Bool.true_and]
        by_cases ha : allowedB (runeP s.data.toList (n : Int)).1 = true
        · rw [if_pos ha, ha, Bool.true_and, wr _ (by omega) (by omega), show (n : Int) + (runeP s.data.toList (n : Int)).2 = ((n + (runeP s.data.toList (n : Int)).2.toNat : Nat) : Int) from by omega]
          exact ih _ (by omega) _ _ rfl (by omega) (by omega)
        · rw [if_neg ha, show allowedB (runeP s.data.toList (n : Int)).1 = false from by simpa using ha]; rfl
    · rw [if_neg (by omega), List.drop_of_length_le (by rw [len_data]; omega)]; rfl
theorem ref_valid_f (s : ByteArray) (hs : s.size ≤ 4294967296) (k : Nat) : topiaryref11_Valid.f (s.size + 50 + k) s = some (validL s.data.toList) :=
  ref_valid_l0 s hs s.size 0 _ (by omega) (by omega) (by omega)
theorem valid_l0 (d : Nat) : ∀ (s : ByteArray) (k : Nat), s.size = d → s.size ≤ 4294967296 → d + 2 ≤ k → chars_Valid.l0 k s = some (validL s.data.toList) := by
  induction d using Nat.strongRecOn with
  | ind d ih =>
    intro s k hd hs hk
    obtain ⟨k, rfl⟩ : ∃ m, k = m + 2 := ⟨k - 2, by omega⟩
    rw [chars_Valid.l0]
    by_cases hlt : 0 < s.size
    · rw [if_pos (by omega), chars_Rune.f, if_pos hs, Option.bind_some]
      have hv := valid_at s 0 hlt
      have hp : runeP s.data.toList ((0 : Nat) : Int) = decL (s.data.toList.drop 0) := by
        unfold runeP
        rw [if_pos ⟨by omega, by rw [len_data]; omega⟩, Int.toNat_natCast]
      have hr := dec_range (s.data.toList.drop 0)
      rw [← hp, List.length_drop, len_data] at hr
      rw [List.drop_zero, Nat.zero_add] at hv
      have e0 : ((0 : Nat) : Int) = 0 := rfl
      rw [e0] at hv hr
      rw [hv]
      by_cases h0 : (runeP s.data.toList 0).2 = 0
      · rw [if_pos h0, h0]; rfl
      · rw [if_neg h0, callowed_f, Option.bind_some, show decide (0 < (runeP s.data.toList 0).2) = true from by simp; omega, Bool.true_and]
        by_cases ha : allowedB (runeP s.data.toList 0).1 = true
        · rw [if_pos ha, ha, Bool.true_and, if_pos (by omega), if_pos (by omega)]
          have hdat : (s.extract (runeP s.data.toList 0).2.toNat s.size).data.toList = s.data.toList.drop (runeP s.data.toList 0).2.toNat := by
            rw [Lib.extract_data, List.take_of_length_le (by rw [List.length_drop, len_data]; exact Nat.le_refl _)]
          have hsz : (s.extract (runeP s.data.toList 0).2.toNat s.size).size = s.size - (runeP s.data.toList 0).2.toNat := by rw [Lib.size_eq, hdat, List.length_drop, len_data]
          rw [← hdat]
          exact ih (s.size - (runeP s.data.toList 0).2.toNat) (by omega) _ _ hsz (by omega) (by omega)
        · rw [if_neg ha, show allowedB (runeP s.data.toList 0).1 = false from by simpa using ha]; rfl
    · have : s.data.toList = [] := List.eq_nil_of_length_eq_zero (by rw [len_data]; omega)
      rw [if_neg (by omega), this]; rfl
theorem valid_f (s : ByteArray) (hs : s.size ≤ 4294967296) (k : Nat) : chars_Valid.f (s.size + 2 + k) s = some (validL s.data.toList) := valid_l0 s.size s _ rfl hs (by omega)
theorem nat_of_bt (s : ByteArray) (n : Nat) (h : n < s.size) (c : UInt8) (hc : s[n] = c) : bt s (n : Int) = (c.toNat : Int) := by rw [bt_get s n h, hc]
theorem ref_space_f (c : UInt8) : topiaryref11_Space.f (c.toNat : Int) = some (spaceB c) := by
  unfold topiaryref11_Space.f spaceB
  repeat' split
  all_goals
    congr 1
    rw [Bool.eq_iff_iff]
    simp
    omega
theorem ref_escape_l0 (s : ByteArray) (hs : s.size ≤ 4294967296) (d : Nat) : ∀ (n k : Nat) (t : ByteArray), s.size - n = d → n ≤ s.size → d + 1 ≤ k → t.size ≤ 6 * n → topiaryref11_Escape.l0 k s t n = some (t ++ ⟨(escL (s.data.toList.drop n)).toArray⟩) := by
  have happ : ∀ (t : ByteArray) (l : List UInt8), (t ++ (⟨l.toArray⟩ : ByteArray)).size = t.size + l.length := by
    intro t l
    have h : (⟨l.toArray⟩ : ByteArray).size = l.length := by simp [ByteArray.size]
    rw [ByteArray.size_append, h]
  induction d with
  | zero =>
    intro n k t hd hn hk ht
    obtain ⟨k, rfl⟩ : ∃ m, k = m + 1 := ⟨k - 1, by omega⟩
    rw [topiaryref11_Escape.l0, if_neg (by omega), List.drop_of_length_le (by rw [len_data]; omega)]
    congr 1
    exact (ByteArray.append_empty).symm
  | succ d ih =>
    intro n k t hd hn hk ht
    obtain ⟨k, rfl⟩ : ∃ m, k = m + 1 := ⟨k - 1, by omega⟩
    have hlt : n < s.size := by omega
    obtain ⟨c, hc⟩ : ∃ c, s[n] = c := ⟨_, rfl⟩
    have hw : wrap64 ((n : Int) + 1) = ((n + 1 : Nat) : Int) := by rw [wr _ (by omega) (by omega)]; omega
    have hstep : ∀ l : List UInt8, l.length ≤ 6 → escB c = l → topiaryref11_Escape.l0 k s (t ++ (⟨l.toArray⟩ : ByteArray)) ((n + 1 : Nat) : Int) = some (t ++ ⟨(escL (s.data.toList.drop n)).toArray⟩) := by
      intro l hl he
      rw [ih (n + 1) k _ (by omega) (by omega) (by omega) (by rw [happ]; omega), drop_cons s n hlt, hc]
      congr 1
      rw [ByteArray.append_assoc]
      congr 1
      have : escL (c :: s.data.toList.drop (n + 1)) = l ++ escL (s.data.toList.drop (n + 1)) := by rw [← he]; simp [escL]
      rw [this, ← List.append_toArray]
      apply ByteArray.ext
      rw [ByteArray.data_append]
    rw [topiaryref11_Escape.l0, if_pos (by omega), if_pos (by omega), nat_of_bt s n hlt c hc, hw]
    have hne : ∀ b : UInt8, ¬ c = b → ¬ ((c.toNat : Int) = (b.toNat : Int)) := fun b h e => h (UInt8.toNat_inj.1 (by omega))
    by_cases h1 : c = 38
    · subst h1
      rw [if_pos (show (((38 : UInt8).toNat : Int)) = 38 from rfl), if_pos (by omega)]
      exact hstep [38, 97, 109, 112, 59] (by decide) rfl
    rw [if_neg (show ¬ ((c.toNat : Int) = 38) from hne 38 h1)]
    by_cases h2 : c = 60
    · subst h2
      rw [if_pos (show (((60 : UInt8).toNat : Int)) = 60 from rfl), if_pos (by omega)]
      exact hstep [38, 108, 116, 59] (by decide) rfl
    rw [if_neg (show ¬ ((c.toNat : Int) = 60) from hne 60 h2)]
    by_cases h3 : c = 62
    · subst h3
      rw [if_pos (show (((62 : UInt8).toNat : Int)) = 62 from rfl), if_pos (by omega)]
      exact hstep [38, 103, 116, 59] (by decide) rfl
    rw [if_neg (show ¬ ((c.toNat : Int) = 62) from hne 62 h3)]
    by_cases h4 : c = 34
    · subst h4
      rw [if_pos (show (((34 : UInt8).toNat : Int)) = 34 from rfl), if_pos (by omega)]
      exact hstep [38, 113, 117, 111, 116, 59] (by decide) rfl
    rw [if_neg (show ¬ ((c.toNat : Int) = 34) from hne 34 h4), if_pos (by omega), if_pos (by omega)]
    have hx : s.extract (n : Int).toNat ((n + 1 : Nat) : Int).toNat = ⟨[c].toArray⟩ := by
      rw [Lib.extract_eq, Int.toNat_natCast, Int.toNat_natCast, drop_cons s n hlt, hc, show n + 1 - n = 1 from by omega]
      rfl
    rw [hx, if_pos (by rw [show (⟨[c].toArray⟩ : ByteArray).size = 1 from rfl]; omega)]
    exact hstep [c] (by simp) (by unfold escB; rw [if_neg h1, if_neg h2, if_neg h3, if_neg h4])
theorem ref_escape_f (s : ByteArray) (hs : s.size ≤ 4294967296) (k : Nat) : topiaryref11_Escape.f (s.size + 1 + k) s = some ⟨(escL s.data.toList).toArray⟩ := by
  have := ref_escape_l0 s hs s.size 0 (s.size + 1 + k) ⟨#[]⟩ (by omega) (by omega) (by omega) (by decide)
  rw [List.drop_zero] at this
  unfold topiaryref11_Escape.f
  refine this.trans ?_
  congr 1
end Go.Proofs.Ytekkaoenabjeiaa.P11
end
section
set_option linter.unusedVariables false
set_option linter.unusedSimpArgs false
namespace Go.Proofs.Ytekkaoenabjeiaa.X
open Go.RowKit Go.Proofs.Ytekkaoenabjeiaa Go.Proofs.Ytekkaoenabjeiaa.Q Go.Proofs.Ytekkaoenabjeiaa.P11 Go.Proofs.YtekkaoenabjeiaaW.PrintWords Go.Proofs.YtekkaoenabjeiaaW.PrintLast Go.Proofs.YtekkaoenabjeiaaW.PrintMore
variable {w0 W : World} {g : Nat} {d : ByteArray} {a : Int} {ts : List Tok} {x : Bool}
def LexRel (d : ByteArray) (P : Option (List Tok)) (a : Int) (acc : List Tok) : Prop :=
  0 ≤ a ∧ a ≤ (d.size : Int) ∧ (acc.length : Int) ≤ a ∧ ∃ n : Nat, (d.size : Int) - a < n ∧ P = lexF d n a acc
theorem Rd.new (w W : World) (d : ByteArray) (hB : Below w.heap.size w W) : Rd w (W.alloc (.cells #[.string d, .int .i64 0, .slice none 0 0, .bool false] 74)) W.heap.size d 0 [] false :=
  ⟨.slice none 0 0, by simpa using heap_alloc_new W _, hB.size, Kd.R_nil _ _ _ _ _, below_alloc hB _⟩
theorem enters5 : (∀ a w, Sem.run Try.prog (callFunc 69 a) w = .ok (.enter 69 a) w) ∧ (∀ a w, Sem.run Try.prog (callFunc 70 a) w = .ok (.enter 70 a) w) ∧ (∀ a w, Sem.run Try.prog (callFunc 71 a) w = .ok (.enter 71 a) w) ∧ (∀ a w, Sem.run Try.prog (callFunc 72 a) w = .ok (.enter 72 a) w) ∧ (∀ a w, Sem.run Try.prog (callFunc 73 a) w = .ok (.enter 73 a) w) :=
  ⟨fun _ _ => by kernel_rfl, fun _ _ => by kernel_rfl, fun _ _ => by kernel_rfl, fun _ _ => by kernel_rfl, fun _ _ => by kernel_rfl⟩
theorem goes_on (w : World) (h : Rd w0 w g d a ts false) (hG : G w0) (hl : ts.length ≤ 100000) (hs : d.size ≤ 65536) (h0 : 0 ≤ a) (h1 : a < (d.size : Int)) :
    Calls Try.prog (nextK d a) #[.pointer (some ⟨g, 0, none⟩)] w fun e w' => e = .returned (.tuple #[]) ∧ Step w0 w' g d ts (stepP d a) := by
  have hr := fun s hs c => stands_room2 d a s h0 hs c
  unfold nextK stepP
  by_cases c1 : standsB d a ⟨#[60, 33, 45, 45]⟩ = true
  · rw [if_pos c1, if_pos c1]
    have := hr _ (by decide) c1
    rw [show ((⟨#[60, 33, 45, 45]⟩ : ByteArray).size : Int) = 4 from rfl] at this
    exact comment_c w h hG (by omega) (by omega) h0 this
  rw [if_neg c1, if_neg c1]
  by_cases c2 : standsB d a ⟨#[60, 33, 91, 67, 68, 65, 84, 65, 91]⟩ = true
  · rw [if_pos c2, if_pos c2]
    have := hr _ (by decide) c2
    rw [show ((⟨#[60, 33, 91, 67, 68, 65, 84, 65, 91]⟩ : ByteArray).size : Int) = 9 from rfl] at this
    exact plain_c w h hG (by omega) (by omega) h0 this
  rw [if_neg c2, if_neg c2]
  by_cases c3 : standsB d a ⟨#[60, 47]⟩ = true
  · rw [if_pos c3, if_pos c3]
    have := hr _ (by decide) c3
    rw [show ((⟨#[60, 47]⟩ : ByteArray).size : Int) = 2 from rfl] at this
    exact closing_c w h (by omega) (by omega) h0 this
  rw [if_neg c3, if_neg c3]
  by_cases c4 : standsB d a ⟨#[60]⟩ = true
  · rw [if_pos c4, if_pos c4]
    exact tag_c w h hG hl (by omega) h0 (by omega)
  rw [if_neg c4, if_neg c4]
  exact text_c w h hG (by omega) (by omega) h0 (by omega)
theorem enters_next (d : ByteArray) (p : Int) (a : Array Value) (w : World) : Sem.run Try.prog (callFunc (nextK d p) a) w = .ok (.enter (nextK d p) a) w := by
  obtain ⟨e1, e2, e3, e4, e5⟩ := enters5
  unfold nextK
  split
  · exact e1 a w
  · split
    · exact e2 a w
    · split
      · exact e3 a w
      · split
        · exact e4 a w
        · exact e5 a w
set_option maxHeartbeats 16000000 in
set_option maxRecDepth 100000 in
theorem lex_c (w : World) (hG : G w) (d : ByteArray) (hs : d.size ≤ 4294967280) :
    Calls Try.prog 39 #[.string d] w fun e w' => ∃ v, e = .returned (.tuple #[v, .int .i64 (lexV d).2]) ∧ Kd.R k46 46 w' w.heap.size (fun _ => True) v (lexV d).1 ∧ Below w.heap.size w w' := by
  obtain ⟨V, hV⟩ : ∃ V, lexV d = V := ⟨_, rfl⟩
  rw [hV]
  unfold lexV at hV
  by_cases c1 : (65536 : Int) < (d.size : Int)
  · rw [if_pos c1] at hV
    subst hV
    have b1 : decide ((65536 : Int) < (d.size : Int)) = true := decide_eq_true c1
    have b2 := eq_true c1
    go_enter Try.func39, Try.ntmps39
    go_wp2
    first | go_ret | go_ret2 | go_ret3
    exact ⟨_, rfl, Kd.R_nil _ _ _ _ _, by repeat (first | exact Below.refl _ _ | apply pw_below_drewN | apply below_drew | apply below_alloc)⟩
  rw [if_neg c1] at hV
  have b1 : decide ((65536 : Int) < (d.size : Int)) = false := decide_eq_false c1
  have b2 := eq_false c1
  have hsz : d.size ≤ 65536 := by omega
  clear c1
  have hVa : ∀ W, Calls Try.prog 28 #[.string d] W fun e w' => e = .returned (.bool (validL d.data.toList)) ∧ Below W.heap.size W w' := fun W => chars_Valid.calls (d.size + 2 + 0) d _ W (valid_f d (by omega) 0)
  obtain ⟨q, hq⟩ : ∃ q, validL d.data.toList = q := ⟨_, rfl⟩
  rw [hq] at hVa hV
  cases q with
  | false =>
    rw [if_pos rfl] at hV
    subst hV
    go_enter Try.func39, Try.ntmps39
    go_wp2_with (go_at_call 28; (with_reducible refine (hVa _).mono ?_); rintro e w1 ⟨rfl, hb1⟩)
    first | go_ret | go_ret2 | go_ret3
    exact ⟨_, rfl, Kd.R_nil _ _ _ _ _, by repeat (first | exact hb1 | exact Below.refl _ _ | apply pw_below_drewN | apply below_drew | apply below_alloc)⟩
  | true =>
    rw [if_neg (by decide)] at hV
    have hNE := enters_next d
    have hT : LexRel d (lexO d) 0 [] := ⟨by omega, by omega, by simp, ⟨d.size + 1, by omega, rfl⟩⟩
    have HT := Lib.hid hT
    clear hT
    go_enter Try.func39, Try.ntmps39
    go_wp2_with (go_at_call 28; (with_reducible refine (hVa _).mono ?_); rintro e w1 ⟨rfl, hb1⟩)
    have hB1 : Below w.heap.size w w1 := by repeat (first | exact hb1 | apply pw_below_drewN | apply below_drew)
    have HI := Lib.hid (Rd.new w w1 d hB1)
    obtain ⟨g, hg⟩ : ∃ g, w1.heap.size = g := ⟨_, rfl⟩
    rw [hg] at HI ⊢
    clear hb1 hB1
    go_loopw [5] (fun t wr => (Hid (lexO d = none) ∧ ∃ p ts', Hid (Rd w wr g d p ts' true)) ∨ (∃ p acc, Hid (LexRel d (lexO d) p acc) ∧ Hid (Rd w wr g d p acc false))) (fun t wr => ahead d g wr)
    case atStart => exact .inr ⟨_, _, HT, HI⟩
    case round =>
      clear HI HT
      rcases hrel with ⟨hPn, p, ts', HR⟩ | ⟨p, acc, hRel, HR⟩
      · have hc3 := HR.out.c3
        have hc1 := HR.out.c1
        rw [hPn.out] at hV
        have hV' : ([], 15) = V := hV
        subst hV'
        obtain ⟨bb, l1⟩ : ∃ bb, decide (p < (d.size : Int)) = bb := ⟨_, rfl⟩
        cases bb
        all_goals
          go_wp2
          first | go_ret | go_ret2 | go_ret3
          exact ⟨_, rfl, Kd.R_nil _ _ _ _ _, by first | exact HR.out.bel | exact (HR.out.drewN _).bel | exact HR.out.drew.bel⟩
      · have hmeas := Lib.hid HR.out.ahead_
        obtain ⟨r1, r2, r3, n, hn, hPn⟩ := hRel.out
        have hc3 := HR.out.c3
        have hc1 := HR.out.c1
        cases n with
        | zero => omega
        | succ n =>
        unfold lexF at hPn
        by_cases hlt : p < (d.size : Int)
        · rw [if_pos hlt] at hPn
          have l1 : decide (p < (d.size : Int)) = true := decide_eq_true hlt
          have l2 := eq_true hlt
          obtain ⟨K, hK⟩ : ∃ K, nextK d p = K := ⟨_, rfl⟩
          have hNx : ∀ W, Rd w W g d p acc false → Calls Try.prog 60 #[.pointer (some ⟨g, 0, none⟩)] W fun e w' => e = .returned (.func (.func K) #[.pointer (some ⟨g, 0, none⟩)] #[]) ∧ Below W.heap.size W w' := fun W h => by rw [← hK]; exact next_c W h r1
          have hGo : ∀ W, Rd w W g d p acc false → Calls Try.prog K #[.pointer (some ⟨g, 0, none⟩)] W fun e w' => e = .returned (.tuple #[]) ∧ Step w w' g d acc (stepP d p) := fun W h => by rw [← hK]; exact goes_on W h hG (by omega) hsz r1 hlt
          have hEn : ∀ (a : Array Value) (w : World), Sem.run Try.prog (callFunc K a) w = .ok (.enter K a) w := fun a w => by rw [← hK]; exact enters_next d p a w
          go_wp2_with (go_at_call 60; (with_reducible refine (hNx _ (by first | exact HR.out | exact HR.out.drewN _)).mono ?_); rintro e w3 ⟨rfl, hb_⟩; have H3 := Lib.hid (show Rd w w3 g d p acc false from by first | exact HR.out.below hb_ | exact (HR.out.drewN _).below hb_); clear hb_)
          go_wp2_with ((with_reducible refine (hGo _ (by first | exact H3.out | exact H3.out.drewN _)).mono ?_); rintro e w4 ⟨rfl, ht⟩)
          cases hS : stepP d p with
          | none =>
            rw [hS] at ht hPn
            obtain ⟨a', ts', ht⟩ := ht
            have HA := Lib.hid ht
            have HP := Lib.hid hPn
            clear ht hPn hV
            go_wp2
            go_roundw
            case rel => first | exact .inl ⟨HP, _, _, HA⟩ | exact .inl ⟨_, _, HA⟩
            case measure => rw [hmeas.out, HA.out.ahead_]; simp only [Bool.false_eq_true, if_false, if_true]; omega
          | some v =>
            obtain ⟨new, a'⟩ := v
            rw [hS] at ht hPn
            have hroom := step_room d p r1 hlt new a' hS
            have HA := Lib.hid (show Rd w w4 g d a' (acc ++ new) false from ht)
            have HP := Lib.hid hPn
            clear ht hPn hV
            go_wp2
            go_roundw
            case rel => exact .inr ⟨_, _, Lib.hid ⟨by omega, hroom.2.1, by rw [List.length_append]; omega, ⟨n, by omega, HP.out⟩⟩, HA⟩
            case measure => rw [hmeas.out, HA.out.ahead_]; simp only [Bool.false_eq_true, if_false, if_true]; omega
        · rw [if_neg hlt] at hPn
          have l1 : decide (p < (d.size : Int)) = false := decide_eq_false hlt
          have l2 := eq_false hlt
          rw [hPn] at hV
          have hV' : (acc, 0) = V := hV
          subst hV'
          obtain ⟨v, h1, h2, h3, h4⟩ := HR.out
          obtain ⟨A, c, rfl, -, -⟩ := Kd.R_reads h3
          have hc2 : wr.cell? ⟨g, 2, none⟩ = some (.slice A acc.length c) := (blk_cell h1 2).trans rfl
          have H5 := Lib.hid h3
          have H6 := Lib.hid h4
          clear h1 h3 h4
          go_wp2
          first | go_ret | go_ret2 | go_ret3
          exact ⟨_, rfl, Kd.R_mono (by first | exact H5.out | exact Kd.R_drewN H5.out _ | exact Kd.R_drew H5.out) (fun _ _ => trivial), by first | exact H6.out | exact pw_below_drewN H6.out _⟩
def lexer_Lex.f (a0 : ByteArray) : Option (List Tok × Int) := if a0.size ≤ 4294967280 then some (lexV a0) else none
theorem lexer_Lex.calls (a0 : ByteArray) (r1 : List Tok) (r2 : Int) (w : World) (hG : G w) (h : lexer_Lex.f a0 = some (r1, r2)) :
    Calls Try.prog 39 #[.string a0] w fun e w' => ∃ v0_ : Value, e = .returned (.tuple #[v0_, .int .i64 r2]) ∧ Kd.R k46 46 w' w.heap.size (fun _ => True) v0_ r1 ∧ Below w.heap.size w w' := by
  unfold lexer_Lex.f at h
  split at h
  · rename_i hs
    have h := Option.some.inj h
    have h1 : r1 = (lexV a0).1 := by rw [h]
    have h2 : r2 = (lexV a0).2 := by rw [h]
    subst h1 h2
    exact lex_c w hG a0 hs
  · cases h
end Go.Proofs.Ytekkaoenabjeiaa.X
end
section
namespace Go.Proofs.Ytekkaoenabjeiaa.X
end Go.Proofs.Ytekkaoenabjeiaa.X
namespace Go.Proofs.Ytekkaoenabjeiaa.Q
open Go.RowKit Go.Proofs.YtekkaoenabjeiaaW.PrintWords Go.Proofs.YtekkaoenabjeiaaW.PrintLast Go.Proofs.YtekkaoenabjeiaaW.PrintMore
attribute [local go_sem] max2_int min2_int max_two min_two max_three min_three max_four min_four   
open Go.Proofs.Ytekkaoenabjeiaa.X
set_option linter.unusedVariables false
set_option linter.unusedSimpArgs false
def topiarylaw12_awake.f  : Option (Bool) := (lexer_Lex.f (⟨#[60, 97, 32, 98, 61, 39, 49, 39, 62, 120, 38, 97, 109, 112, 59, 121, 60, 47, 97, 62]⟩ : ByteArray)).bind fun bt228 => ((lexer_Lex.f (⟨#[60, 97, 32, 98, 62]⟩ : ByteArray)).bind fun bt232 => (if bt228.2 = 0 then (if bt232.2 = 15 then (if (bt228.1.length : Int) = 5 then (if 0 < (bt228.1.length : Int) then (if ((rd_T46 bt228.1 0).f0) = 1 then (if 1 < (bt228.1.length : Int) then (if ((rd_T46 bt228.1 1).f3).toList = ([98] : List UInt8) then (if ((rd_T46 bt228.1 1).f4).toList = ([49] : List UInt8) then (if 2 < (bt228.1.length : Int) then (if ((rd_T46 bt228.1 2).f0) = 3 then (if 3 < (bt228.1.length : Int) then (if ((rd_T46 bt228.1 3).f4).toList = ([120, 38, 121] : List UInt8) then (if 4 < (bt228.1.length : Int) then (if ((rd_T46 bt228.1 4).f0) = 5 then (some (((rd_T46 bt228.1 4).f3).toList == ([97] : List UInt8))) else (some false)) else (none)) else (some false)) else (none)) else (some false)) else (none)) else (some false)) else (some false)) else (none)) else (some false)) else (none)) else (some false)) else (some false)) else (some false)))
set_option maxHeartbeats 8000000 in
set_option maxRecDepth 100000 in
theorem topiarylaw12_awake.calls  (r : Bool) (w : World) (hG : G w) (h : topiarylaw12_awake.f  = some r) :
    Calls Try.prog 37 #[] w fun e w' => e = .returned (.bool r) ∧ Below w.heap.size w w' := by
  have HB := Aside0.mk (Below.refl w.heap.size w)
  have H : ((lexer_Lex.f (⟨#[60, 97, 32, 98, 61, 39, 49, 39, 62, 120, 38, 97, 109, 112, 59, 121, 60, 47, 97, 62]⟩ : ByteArray)).bind fun bt228 => ((lexer_Lex.f (⟨#[60, 97, 32, 98, 62]⟩ : ByteArray)).bind fun bt232 => (if bt228.2 = 0 then (if bt232.2 = 15 then (if (bt228.1.length : Int) = 5 then (if 0 < (bt228.1.length : Int) then (if ((rd_T46 bt228.1 0).f0) = 1 then (if 1 < (bt228.1.length : Int) then (if ((rd_T46 bt228.1 1).f3).toList = ([98] : List UInt8) then (if ((rd_T46 bt228.1 1).f4).toList = ([49] : List UInt8) then (if 2 < (bt228.1.length : Int) then (if ((rd_T46 bt228.1 2).f0) = 3 then (if 3 < (bt228.1.length : Int) then (if ((rd_T46 bt228.1 3).f4).toList = ([120, 38, 121] : List UInt8) then (if 4 < (bt228.1.length : Int) then (if ((rd_T46 bt228.1 4).f0) = 5 then (some (((rd_T46 bt228.1 4).f3).toList == ([97] : List UInt8))) else (some false)) else (none)) else (some false)) else (none)) else (some false)) else (none)) else (some false)) else (some false)) else (none)) else (some false)) else (none)) else (some false)) else (some false)) else (some false)))) = some r := h
  clear h
  replace H := Option.bind_eq_some_iff.mp H
  obtain ⟨⟨t228, t229⟩, A10, H⟩ := H
  replace H : ((lexer_Lex.f (⟨#[60, 97, 32, 98, 62]⟩ : ByteArray)).bind fun bt232 => (if t229 = 0 then (if bt232.2 = 15 then (if (t228.length : Int) = 5 then (if 0 < (t228.length : Int) then (if ((rd_T46 t228 0).f0) = 1 then (if 1 < (t228.length : Int) then (if ((rd_T46 t228 1).f3).toList = ([98] : List UInt8) then (if ((rd_T46 t228 1).f4).toList = ([49] : List UInt8) then (if 2 < (t228.length : Int) then (if ((rd_T46 t228 2).f0) = 3 then (if 3 < (t228.length : Int) then (if ((rd_T46 t228 3).f4).toList = ([120, 38, 121] : List UInt8) then (if 4 < (t228.length : Int) then (if ((rd_T46 t228 4).f0) = 5 then (some (((rd_T46 t228 4).f3).toList == ([97] : List UInt8))) else (some false)) else (none)) else (some false)) else (none)) else (some false)) else (none)) else (some false)) else (some false)) else (none)) else (some false)) else (none)) else (some false)) else (some false)) else (some false))) = some r := H
  have A1 := Aside0.mk A10
  clear A10
  replace H := Option.bind_eq_some_iff.mp H
  obtain ⟨⟨t232, t233⟩, A20, H⟩ := H
  replace H : (if t229 = 0 then (if t233 = 15 then (if (t228.length : Int) = 5 then (if 0 < (t228.length : Int) then (if ((rd_T46 t228 0).f0) = 1 then (if 1 < (t228.length : Int) then (if ((rd_T46 t228 1).f3).toList = ([98] : List UInt8) then (if ((rd_T46 t228 1).f4).toList = ([49] : List UInt8) then (if 2 < (t228.length : Int) then (if ((rd_T46 t228 2).f0) = 3 then (if 3 < (t228.length : Int) then (if ((rd_T46 t228 3).f4).toList = ([120, 38, 121] : List UInt8) then (if 4 < (t228.length : Int) then (if ((rd_T46 t228 4).f0) = 5 then (some (((rd_T46 t228 4).f3).toList == ([97] : List UInt8))) else (some false)) else (none)) else (some false)) else (none)) else (some false)) else (none)) else (some false)) else (some false)) else (none)) else (some false)) else (none)) else (some false)) else (some false)) else (some false)) = some r := H
  have A2 := Aside0.mk A20
  clear A20
  by_cases c3 : t229 = 0
  · rw [if_pos c3] at H
    have c3b0 : (t229 == 0) = true := beq_iff_eq.mpr c3
    have c3b1 : (t229 != 0) = false := bne_eq_false_iff_eq.mpr c3
    clear c3
    by_cases c4 : t233 = 15
    · rw [if_pos c4] at H
      have c4b0 : (t233 == 15) = true := beq_iff_eq.mpr c4
      have c4b1 : (t233 != 15) = false := bne_eq_false_iff_eq.mpr c4
      clear c4
      by_cases c5 : (t228.length : Int) = 5
      · rw [if_pos c5] at H
        have c5b0 : ((t228.length : Int) == 5) = true := beq_iff_eq.mpr c5
        have c5b1 : ((t228.length : Int) != 5) = false := bne_eq_false_iff_eq.mpr c5
        clear c5
        by_cases c6 : 0 < (t228.length : Int)
        · rw [if_pos c6] at H
          have c6b0 : decide (0 < (t228.length : Int)) = true := decide_eq_true c6
          have c6b1 : decide (0 < t228.length) = true := decide_eq_true (by omega)
          clear c6
          by_cases c7 : ((rd_T46 t228 0).f0) = 1
          · rw [if_pos c7] at H
            have c7b0 : (((rd_T46 t228 0).f0) == 1) = true := beq_iff_eq.mpr c7
            have c7b1 : (((rd_T46 t228 0).f0) != 1) = false := bne_eq_false_iff_eq.mpr c7
            clear c7
            by_cases c8 : 1 < (t228.length : Int)
            · rw [if_pos c8] at H
              have c8b0 : decide (1 < (t228.length : Int)) = true := decide_eq_true c8
              have c8b1 : decide (1 < t228.length) = true := decide_eq_true (by omega)
              clear c8
              by_cases c9 : ((rd_T46 t228 1).f3).toList = ([98] : List UInt8)
              · rw [if_pos c9] at H
                have c9b0 : (((rd_T46 t228 1).f3).toList == ([98] : List UInt8)) = true := beq_iff_eq.mpr c9
                have c9b1 : (((rd_T46 t228 1).f3).toList != ([98] : List UInt8)) = false := bne_eq_false_iff_eq.mpr c9
                clear c9
                by_cases c10 : ((rd_T46 t228 1).f4).toList = ([49] : List UInt8)
                · rw [if_pos c10] at H
                  have c10b0 : (((rd_T46 t228 1).f4).toList == ([49] : List UInt8)) = true := beq_iff_eq.mpr c10
                  have c10b1 : (((rd_T46 t228 1).f4).toList != ([49] : List UInt8)) = false := bne_eq_false_iff_eq.mpr c10
                  clear c10
                  by_cases c11 : 2 < (t228.length : Int)
                  · rw [if_pos c11] at H
                    have c11b0 : decide (2 < (t228.length : Int)) = true := decide_eq_true c11
                    have c11b1 : decide (2 < t228.length) = true := decide_eq_true (by omega)
                    clear c11
                    by_cases c12 : ((rd_T46 t228 2).f0) = 3
                    · rw [if_pos c12] at H
                      have c12b0 : (((rd_T46 t228 2).f0) == 3) = true := beq_iff_eq.mpr c12
                      have c12b1 : (((rd_T46 t228 2).f0) != 3) = false := bne_eq_false_iff_eq.mpr c12
                      clear c12
                      by_cases c13 : 3 < (t228.length : Int)
                      · rw [if_pos c13] at H
                        have c13b0 : decide (3 < (t228.length : Int)) = true := decide_eq_true c13
                        have c13b1 : decide (3 < t228.length) = true := decide_eq_true (by omega)
                        clear c13
                        by_cases c14 : ((rd_T46 t228 3).f4).toList = ([120, 38, 121] : List UInt8)
                        · rw [if_pos c14] at H
                          have c14b0 : (((rd_T46 t228 3).f4).toList == ([120, 38, 121] : List UInt8)) = true := beq_iff_eq.mpr c14
                          have c14b1 : (((rd_T46 t228 3).f4).toList != ([120, 38, 121] : List UInt8)) = false := bne_eq_false_iff_eq.mpr c14
                          clear c14
                          by_cases c15 : 4 < (t228.length : Int)
                          · rw [if_pos c15] at H
                            have c15b0 : decide (4 < (t228.length : Int)) = true := decide_eq_true c15
                            have c15b1 : decide (4 < t228.length) = true := decide_eq_true (by omega)
                            clear c15
                            by_cases c16 : ((rd_T46 t228 4).f0) = 5
                            · rw [if_pos c16] at H
                              have c16b0 : (((rd_T46 t228 4).f0) == 5) = true := beq_iff_eq.mpr c16
                              have c16b1 : (((rd_T46 t228 4).f0) != 5) = false := bne_eq_false_iff_eq.mpr c16
                              clear c16
                              obtain rfl := Option.some.inj H
                              go_enter Try.func37, Try.ntmps37
                              go_wp2_with (first | ((with_reducible refine gate_callee (f := 39) rfl ?_); refine goesL_ (some 6) rfl rfl Try.func39 (by kernel_rfl) rfl #[.string (⟨#[60, 97, 32, 98, 61, 39, 49, 39, 62, 120, 38, 97, 109, 112, 59, 121, 60, 47, 97, 62]⟩ : ByteArray)] rfl (by (try simp only [List.map_toArray, List.map_cons, List.map_nil]); first | done | rfl | (simp only [List.length_drop, List.length_take]; rfl)) ?_; (with_reducible refine (lexer_Lex.calls (⟨#[60, 97, 32, 98, 61, 39, 49, 39, 62, 120, 38, 97, 109, 112, 59, 121, 60, 47, 97, 62]⟩ : ByteArray) t228 t229 _ (by first | exact hG | exact G.below hG (by repeat (first | (with_reducible first | exact HB.out | apply below_alloc | apply pw_below_drewN | apply below_drew1) | exact HB.out))) A1.out).mono ?_); rintro e w17 ⟨v230, rfl, ho0, hb⟩; refine ⟨_, rfl, ?_⟩; have n0_ := Aside0.mk (Kd.R_lower ho0 (below_size (by repeat (first | (with_reducible first | exact HB.out | apply below_alloc | apply pw_below_drewN | apply below_drew1) | exact HB.out)))); have n1_ := Aside0.mk (below_step (by repeat (first | (with_reducible first | exact HB.out | apply below_alloc | apply pw_below_drewN | apply below_drew1) | exact HB.out)) hb); clear HB; have HO231 := n0_; have HB := n1_; clear n0_ n1_; (try clear hb); (try clear hb2); (try clear hk); (try clear hi); (try clear ho0)) | ((with_reducible refine gate_callee (f := 39) rfl ?_); refine goesL_ (some 10) rfl rfl Try.func39 (by kernel_rfl) rfl #[.string (⟨#[60, 97, 32, 98, 62]⟩ : ByteArray)] rfl (by (try simp only [List.map_toArray, List.map_cons, List.map_nil]); first | done | rfl | (simp only [List.length_drop, List.length_take]; rfl)) ?_; (with_reducible refine (lexer_Lex.calls (⟨#[60, 97, 32, 98, 62]⟩ : ByteArray) t232 t233 _ (by first | exact hG | exact G.below hG (by repeat (first | (with_reducible first | exact HB.out | apply below_alloc | apply pw_below_drewN | apply below_drew1) | exact HB.out))) A2.out).mono ?_); rintro e w18 ⟨v234, rfl, ho0, hb⟩; refine ⟨_, rfl, ?_⟩; have n0_ := Aside0.mk (Kd.R_elder' (by (with_reducible repeat (first | apply Kd.R_alloc | apply Kd.R_drewN | apply Kd.R_drew)); exact HO231.out) (Kd.R_base ho0) hb); have n1_ := Aside0.mk (Kd.R_lower (Kd.R_new' ho0 (Kd.R_lt (by (with_reducible repeat (first | apply Kd.R_alloc | apply Kd.R_drewN | apply Kd.R_drew)); exact HO231.out))) (below_size (by repeat (first | (with_reducible first | exact HB.out | apply below_alloc | apply pw_below_drewN | apply below_drew1) | exact HB.out)))); have n2_ := Aside0.mk (below_step (by repeat (first | (with_reducible first | exact HB.out | apply below_alloc | apply pw_below_drewN | apply below_drew1) | exact HB.out)) hb); clear HO231; clear HB; have HO231 := n0_; have HO235 := n1_; have HB := n2_; clear n0_ n1_ n2_; (try clear hb); (try clear hb2); (try clear hk); (try clear hi); (try clear ho0); obtain ⟨Ao19, co19, eo19⟩ := Kd.R_slice HO231.out; subst eo19; have p236 : 0 ≤ (0 : Int) := (by omega); have q236 : 0 < (t228.length : Int) := of_decide_eq_true (by first | (with_reducible assumption) | assumption); obtain ⟨ad236, e236, hx236_0, hx236_1, hx236_2, hx236_3, hx236_4⟩ := at_T46 (Kd.R_reads' HO231.out).2.2 0 p236 q236; cases e236; have qi236 : (0 < t228.length) = True := eq_true (by omega); (try rw [show ((0 : Int)).toNat = 0 from rfl] at hx236_0); (try rw [show 0 * 5 = 0 from rfl] at hx236_0); (try rw [Addr.add_zero'] at hx236_0); (try rw [show ((0 : Int)).toNat = 0 from rfl] at hx236_1); (try rw [show 0 * 5 = 0 from rfl] at hx236_1); (try rw [Addr.add_zero'] at hx236_1); (try rw [show ((0 : Int)).toNat = 0 from rfl] at hx236_2); (try rw [show 0 * 5 = 0 from rfl] at hx236_2); (try rw [Addr.add_zero'] at hx236_2); (try rw [show ((0 : Int)).toNat = 0 from rfl] at hx236_3); (try rw [show 0 * 5 = 0 from rfl] at hx236_3); (try rw [Addr.add_zero'] at hx236_3); (try rw [show ((0 : Int)).toNat = 0 from rfl] at hx236_4); (try rw [show 0 * 5 = 0 from rfl] at hx236_4); (try rw [Addr.add_zero'] at hx236_4); replace p236 := eq_true p236; replace q236 := eq_true q236; have p237 : 0 ≤ (1 : Int) := (by omega); have q237 : 1 < (t228.length : Int) := of_decide_eq_true (by first | (with_reducible assumption) | assumption); obtain ⟨ad237, e237, hx237_0, hx237_1, hx237_2, hx237_3, hx237_4⟩ := at_T46 (Kd.R_reads' HO231.out).2.2 1 p237 q237; obtain rfl : ad236 = ad237 := (by injection e237); (try simp only [show (1 : Int).toNat = 1 from rfl, Nat.reduceMul, Nat.reduceEqDiff, Go.Addr.add, ↓reduceIte] at hx237_0); (try simp only [show (1 : Int).toNat = 1 from rfl, Nat.reduceMul, Nat.reduceEqDiff, Go.Addr.add, ↓reduceIte] at hx237_1); (try simp only [show (1 : Int).toNat = 1 from rfl, Nat.reduceMul, Nat.reduceEqDiff, Go.Addr.add, ↓reduceIte] at hx237_2); (try simp only [show (1 : Int).toNat = 1 from rfl, Nat.reduceMul, Nat.reduceEqDiff, Go.Addr.add, ↓reduceIte] at hx237_3); (try simp only [show (1 : Int).toNat = 1 from rfl, Nat.reduceMul, Nat.reduceEqDiff, Go.Addr.add, ↓reduceIte] at hx237_4); have qi237 : (1 < t228.length) = True := eq_true (by omega); (try rw [show ((1 : Int)).toNat = 1 from rfl] at hx237_0); (try rw [show 1 * 5 = 5 from rfl] at hx237_0); (try rw [show ((1 : Int)).toNat = 1 from rfl] at hx237_1); (try rw [show 1 * 5 = 5 from rfl] at hx237_1); (try rw [show ((1 : Int)).toNat = 1 from rfl] at hx237_2); (try rw [show 1 * 5 = 5 from rfl] at hx237_2); (try rw [show ((1 : Int)).toNat = 1 from rfl] at hx237_3); (try rw [show 1 * 5 = 5 from rfl] at hx237_3); (try rw [show ((1 : Int)).toNat = 1 from rfl] at hx237_4); (try rw [show 1 * 5 = 5 from rfl] at hx237_4); replace p237 := eq_true p237; replace q237 := eq_true q237; have p238 : 0 ≤ (1 : Int) := (by omega); have q238 : 1 < (t228.length : Int) := of_decide_eq_true (by first | (with_reducible assumption) | assumption); obtain ⟨ad238, e238, hx238_0, hx238_1, hx238_2, hx238_3, hx238_4⟩ := at_T46 (Kd.R_reads' HO231.out).2.2 1 p238 q238; obtain rfl : ad236 = ad238 := (by injection e238); (try simp only [show (1 : Int).toNat = 1 from rfl, Nat.reduceMul, Nat.reduceEqDiff, Go.Addr.add, ↓reduceIte] at hx238_0); (try simp only [show (1 : Int).toNat = 1 from rfl, Nat.reduceMul, Nat.reduceEqDiff, Go.Addr.add, ↓reduceIte] at hx238_1); (try simp only [show (1 : Int).toNat = 1 from rfl, Nat.reduceMul, Nat.reduceEqDiff, Go.Addr.add, ↓reduceIte] at hx238_2); (try simp only [show (1 : Int).toNat = 1 from rfl, Nat.reduceMul, Nat.reduceEqDiff, Go.Addr.add, ↓reduceIte] at hx238_3); (try simp only [show (1 : Int).toNat = 1 from rfl, Nat.reduceMul, Nat.reduceEqDiff, Go.Addr.add, ↓reduceIte] at hx238_4); have qi238 : (1 < t228.length) = True := eq_true (by omega); (try rw [show ((1 : Int)).toNat = 1 from rfl] at hx238_0); (try rw [show 1 * 5 = 5 from rfl] at hx238_0); (try rw [show ((1 : Int)).toNat = 1 from rfl] at hx238_1); (try rw [show 1 * 5 = 5 from rfl] at hx238_1); (try rw [show ((1 : Int)).toNat = 1 from rfl] at hx238_2); (try rw [show 1 * 5 = 5 from rfl] at hx238_2); (try rw [show ((1 : Int)).toNat = 1 from rfl] at hx238_3); (try rw [show 1 * 5 = 5 from rfl] at hx238_3); (try rw [show ((1 : Int)).toNat = 1 from rfl] at hx238_4); (try rw [show 1 * 5 = 5 from rfl] at hx238_4); replace p238 := eq_true p238; replace q238 := eq_true q238; have p239 : 0 ≤ (2 : Int) := (by omega); have q239 : 2 < (t228.length : Int) := of_decide_eq_true (by first | (with_reducible assumption) | assumption); obtain ⟨ad239, e239, hx239_0, hx239_1, hx239_2, hx239_3, hx239_4⟩ := at_T46 (Kd.R_reads' HO231.out).2.2 2 p239 q239; obtain rfl : ad236 = ad239 := (by injection e239); (try simp only [show (2 : Int).toNat = 2 from rfl, Nat.reduceMul, Nat.reduceEqDiff, Go.Addr.add, ↓reduceIte] at hx239_0); (try simp only [show (2 : Int).toNat = 2 from rfl, Nat.reduceMul, Nat.reduceEqDiff, Go.Addr.add, ↓reduceIte] at hx239_1); (try simp only [show (2 : Int).toNat = 2 from rfl, Nat.reduceMul, Nat.reduceEqDiff, Go.Addr.add, ↓reduceIte] at hx239_2); (try simp only [show (2 : Int).toNat = 2 from rfl, Nat.reduceMul, Nat.reduceEqDiff, Go.Addr.add, ↓reduceIte] at hx239_3); (try simp only [show (2 : Int).toNat = 2 from rfl, Nat.reduceMul, Nat.reduceEqDiff, Go.Addr.add, ↓reduceIte] at hx239_4); have qi239 : (2 < t228.length) = True := eq_true (by omega); (try rw [show ((2 : Int)).toNat = 2 from rfl] at hx239_0); (try rw [show 2 * 5 = 10 from rfl] at hx239_0); (try rw [show ((2 : Int)).toNat = 2 from rfl] at hx239_1); (try rw [show 2 * 5 = 10 from rfl] at hx239_1); (try rw [show ((2 : Int)).toNat = 2 from rfl] at hx239_2); (try rw [show 2 * 5 = 10 from rfl] at hx239_2); (try rw [show ((2 : Int)).toNat = 2 from rfl] at hx239_3); (try rw [show 2 * 5 = 10 from rfl] at hx239_3); (try rw [show ((2 : Int)).toNat = 2 from rfl] at hx239_4); (try rw [show 2 * 5 = 10 from rfl] at hx239_4); replace p239 := eq_true p239; replace q239 := eq_true q239; have p240 : 0 ≤ (3 : Int) := (by omega); have q240 : 3 < (t228.length : Int) := of_decide_eq_true (by first | (with_reducible assumption) | assumption); obtain ⟨ad240, e240, hx240_0, hx240_1, hx240_2, hx240_3, hx240_4⟩ := at_T46 (Kd.R_reads' HO231.out).2.2 3 p240 q240; obtain rfl : ad236 = ad240 := (by injection e240); (try simp only [show (3 : Int).toNat = 3 from rfl, Nat.reduceMul, Nat.reduceEqDiff, Go.Addr.add, ↓reduceIte] at hx240_0); (try simp only [show (3 : Int).toNat = 3 from rfl, Nat.reduceMul, Nat.reduceEqDiff, Go.Addr.add, ↓reduceIte] at hx240_1); (try simp only [show (3 : Int).toNat = 3 from rfl, Nat.reduceMul, Nat.reduceEqDiff, Go.Addr.add, ↓reduceIte] at hx240_2); (try simp only [show (3 : Int).toNat = 3 from rfl, Nat.reduceMul, Nat.reduceEqDiff, Go.Addr.add, ↓reduceIte] at hx240_3); (try simp only [show (3 : Int).toNat = 3 from rfl, Nat.reduceMul, Nat.reduceEqDiff, Go.Addr.add, ↓reduceIte] at hx240_4); have qi240 : (3 < t228.length) = True := eq_true (by omega); (try rw [show ((3 : Int)).toNat = 3 from rfl] at hx240_0); (try rw [show 3 * 5 = 15 from rfl] at hx240_0); (try rw [show ((3 : Int)).toNat = 3 from rfl] at hx240_1); (try rw [show 3 * 5 = 15 from rfl] at hx240_1); (try rw [show ((3 : Int)).toNat = 3 from rfl] at hx240_2); (try rw [show 3 * 5 = 15 from rfl] at hx240_2); (try rw [show ((3 : Int)).toNat = 3 from rfl] at hx240_3); (try rw [show 3 * 5 = 15 from rfl] at hx240_3); (try rw [show ((3 : Int)).toNat = 3 from rfl] at hx240_4); (try rw [show 3 * 5 = 15 from rfl] at hx240_4); replace p240 := eq_true p240; replace q240 := eq_true q240; have p241 : 0 ≤ (4 : Int) := (by omega); have q241 : 4 < (t228.length : Int) := of_decide_eq_true (by first | (with_reducible assumption) | assumption); obtain ⟨ad241, e241, hx241_0, hx241_1, hx241_2, hx241_3, hx241_4⟩ := at_T46 (Kd.R_reads' HO231.out).2.2 4 p241 q241; obtain rfl : ad236 = ad241 := (by injection e241); (try simp only [show (4 : Int).toNat = 4 from rfl, Nat.reduceMul, Nat.reduceEqDiff, Go.Addr.add, ↓reduceIte] at hx241_0); (try simp only [show (4 : Int).toNat = 4 from rfl, Nat.reduceMul, Nat.reduceEqDiff, Go.Addr.add, ↓reduceIte] at hx241_1); (try simp only [show (4 : Int).toNat = 4 from rfl, Nat.reduceMul, Nat.reduceEqDiff, Go.Addr.add, ↓reduceIte] at hx241_2); (try simp only [show (4 : Int).toNat = 4 from rfl, Nat.reduceMul, Nat.reduceEqDiff, Go.Addr.add, ↓reduceIte] at hx241_3); (try simp only [show (4 : Int).toNat = 4 from rfl, Nat.reduceMul, Nat.reduceEqDiff, Go.Addr.add, ↓reduceIte] at hx241_4); have qi241 : (4 < t228.length) = True := eq_true (by omega); (try rw [show ((4 : Int)).toNat = 4 from rfl] at hx241_0); (try rw [show 4 * 5 = 20 from rfl] at hx241_0); (try rw [show ((4 : Int)).toNat = 4 from rfl] at hx241_1); (try rw [show 4 * 5 = 20 from rfl] at hx241_1); (try rw [show ((4 : Int)).toNat = 4 from rfl] at hx241_2); (try rw [show 4 * 5 = 20 from rfl] at hx241_2); (try rw [show ((4 : Int)).toNat = 4 from rfl] at hx241_3); (try rw [show 4 * 5 = 20 from rfl] at hx241_3); (try rw [show ((4 : Int)).toNat = 4 from rfl] at hx241_4); (try rw [show 4 * 5 = 20 from rfl] at hx241_4); replace p241 := eq_true p241; replace q241 := eq_true q241; have p242 : 0 ≤ (4 : Int) := (by omega); have q242 : 4 < (t228.length : Int) := of_decide_eq_true (by first | (with_reducible assumption) | assumption); obtain ⟨ad242, e242, hx242_0, hx242_1, hx242_2, hx242_3, hx242_4⟩ := at_T46 (Kd.R_reads' HO231.out).2.2 4 p242 q242; obtain rfl : ad236 = ad242 := (by injection e242); (try simp only [show (4 : Int).toNat = 4 from rfl, Nat.reduceMul, Nat.reduceEqDiff, Go.Addr.add, ↓reduceIte] at hx242_0); (try simp only [show (4 : Int).toNat = 4 from rfl, Nat.reduceMul, Nat.reduceEqDiff, Go.Addr.add, ↓reduceIte] at hx242_1); (try simp only [show (4 : Int).toNat = 4 from rfl, Nat.reduceMul, Nat.reduceEqDiff, Go.Addr.add, ↓reduceIte] at hx242_2); (try simp only [show (4 : Int).toNat = 4 from rfl, Nat.reduceMul, Nat.reduceEqDiff, Go.Addr.add, ↓reduceIte] at hx242_3); (try simp only [show (4 : Int).toNat = 4 from rfl, Nat.reduceMul, Nat.reduceEqDiff, Go.Addr.add, ↓reduceIte] at hx242_4); have qi242 : (4 < t228.length) = True := eq_true (by omega); (try rw [show ((4 : Int)).toNat = 4 from rfl] at hx242_0); (try rw [show 4 * 5 = 20 from rfl] at hx242_0); (try rw [show ((4 : Int)).toNat = 4 from rfl] at hx242_1); (try rw [show 4 * 5 = 20 from rfl] at hx242_1); (try rw [show ((4 : Int)).toNat = 4 from rfl] at hx242_2); (try rw [show 4 * 5 = 20 from rfl] at hx242_2); (try rw [show ((4 : Int)).toNat = 4 from rfl] at hx242_3); (try rw [show 4 * 5 = 20 from rfl] at hx242_3); (try rw [show ((4 : Int)).toNat = 4 from rfl] at hx242_4); (try rw [show 4 * 5 = 20 from rfl] at hx242_4); replace p242 := eq_true p242; replace q242 := eq_true q242))
                              go_ret
                              exact ⟨by first | rfl | (simp [errW_none, errW_some] <;> rfl) | (simp [*, errW_none, errW_some] <;> rfl), by repeat (first | (with_reducible first | exact HB.out | apply below_alloc | apply pw_below_drewN | apply below_drew1) | exact HB.out)⟩
                            · rw [if_neg c16] at H
                              have c16b0 : (((rd_T46 t228 4).f0) == 5) = false := beq_eq_false_iff_ne.mpr c16
                              have c16b1 : (((rd_T46 t228 4).f0) != 5) = true := bne_iff_ne.mpr c16
                              obtain rfl := Option.some.inj H
                              go_enter Try.func37, Try.ntmps37
                              go_wp2_with (first | ((with_reducible refine gate_callee (f := 39) rfl ?_); refine goesL_ (some 6) rfl rfl Try.func39 (by kernel_rfl) rfl #[.string (⟨#[60, 97, 32, 98, 61, 39, 49, 39, 62, 120, 38, 97, 109, 112, 59, 121, 60, 47, 97, 62]⟩ : ByteArray)] rfl (by (try simp only [List.map_toArray, List.map_cons, List.map_nil]); first | done | rfl | (simp only [List.length_drop, List.length_take]; rfl)) ?_; (with_reducible refine (lexer_Lex.calls (⟨#[60, 97, 32, 98, 61, 39, 49, 39, 62, 120, 38, 97, 109, 112, 59, 121, 60, 47, 97, 62]⟩ : ByteArray) t228 t229 _ (by first | exact hG | exact G.below hG (by repeat (first | (with_reducible first | exact HB.out | apply below_alloc | apply pw_below_drewN | apply below_drew1) | exact HB.out))) A1.out).mono ?_); rintro e w20 ⟨v230, rfl, ho0, hb⟩; refine ⟨_, rfl, ?_⟩; have n0_ := Aside0.mk (Kd.R_lower ho0 (below_size (by repeat (first | (with_reducible first | exact HB.out | apply below_alloc | apply pw_below_drewN | apply below_drew1) | exact HB.out)))); have n1_ := Aside0.mk (below_step (by repeat (first | (with_reducible first | exact HB.out | apply below_alloc | apply pw_below_drewN | apply below_drew1) | exact HB.out)) hb); clear HB; have HO231 := n0_; have HB := n1_; clear n0_ n1_; (try clear hb); (try clear hb2); (try clear hk); (try clear hi); (try clear ho0)) | ((with_reducible refine gate_callee (f := 39) rfl ?_); refine goesL_ (some 10) rfl rfl Try.func39 (by kernel_rfl) rfl #[.string (⟨#[60, 97, 32, 98, 62]⟩ : ByteArray)] rfl (by (try simp only [List.map_toArray, List.map_cons, List.map_nil]); first | done | rfl | (simp only [List.length_drop, List.length_take]; rfl)) ?_; (with_reducible refine (lexer_Lex.calls (⟨#[60, 97, 32, 98, 62]⟩ : ByteArray) t232 t233 _ (by first | exact hG | exact G.below hG (by repeat (first | (with_reducible first | exact HB.out | apply below_alloc | apply pw_below_drewN | apply below_drew1) | exact HB.out))) A2.out).mono ?_); rintro e w21 ⟨v234, rfl, ho0, hb⟩; refine ⟨_, rfl, ?_⟩; have n0_ := Aside0.mk (Kd.R_elder' (by (with_reducible repeat (first | apply Kd.R_alloc | apply Kd.R_drewN | apply Kd.R_drew)); exact HO231.out) (Kd.R_base ho0) hb); have n1_ := Aside0.mk (Kd.R_lower (Kd.R_new' ho0 (Kd.R_lt (by (with_reducible repeat (first | apply Kd.R_alloc | apply Kd.R_drewN | apply Kd.R_drew)); exact HO231.out))) (below_size (by repeat (first | (with_reducible first | exact HB.out | apply below_alloc | apply pw_below_drewN | apply below_drew1) | exact HB.out)))); have n2_ := Aside0.mk (below_step (by repeat (first | (with_reducible first | exact HB.out | apply below_alloc | apply pw_below_drewN | apply below_drew1) | exact HB.out)) hb); clear HO231; clear HB; have HO231 := n0_; have HO235 := n1_; have HB := n2_; clear n0_ n1_ n2_; (try clear hb); (try clear hb2); (try clear hk); (try clear hi); (try clear ho0); obtain ⟨Ao22, co22, eo22⟩ := Kd.R_slice HO231.out; subst eo22; have p236 : 0 ≤ (0 : Int) := (by omega); have q236 : 0 < (t228.length : Int) := of_decide_eq_true (by first | (with_reducible assumption) | assumption); obtain ⟨ad236, e236, hx236_0, hx236_1, hx236_2, hx236_3, hx236_4⟩ := at_T46 (Kd.R_reads' HO231.out).2.2 0 p236 q236; cases e236; have qi236 : (0 < t228.length) = True := eq_true (by omega); (try rw [show ((0 : Int)).toNat = 0 from rfl] at hx236_0); (try rw [show 0 * 5 = 0 from rfl] at hx236_0); (try rw [Addr.add_zero'] at hx236_0); (try rw [show ((0 : Int)).toNat = 0 from rfl] at hx236_1); (try rw [show 0 * 5 = 0 from rfl] at hx236_1); (try rw [Addr.add_zero'] at hx236_1); (try rw [show ((0 : Int)).toNat = 0 from rfl] at hx236_2); (try rw [show 0 * 5 = 0 from rfl] at hx236_2); (try rw [Addr.add_zero'] at hx236_2); (try rw [show ((0 : Int)).toNat = 0 from rfl] at hx236_3); (try rw [show 0 * 5 = 0 from rfl] at hx236_3); (try rw [Addr.add_zero'] at hx236_3); (try rw [show ((0 : Int)).toNat = 0 from rfl] at hx236_4); (try rw [show 0 * 5 = 0 from rfl] at hx236_4); (try rw [Addr.add_zero'] at hx236_4); replace p236 := eq_true p236; replace q236 := eq_true q236; have p237 : 0 ≤ (1 : Int) := (by omega); have q237 : 1 < (t228.length : Int) := of_decide_eq_true (by first | (with_reducible assumption) | assumption); obtain ⟨ad237, e237, hx237_0, hx237_1, hx237_2, hx237_3, hx237_4⟩ := at_T46 (Kd.R_reads' HO231.out).2.2 1 p237 q237; obtain rfl : ad236 = ad237 := (by injection e237); (try simp only [show (1 : Int).toNat = 1 from rfl, Nat.reduceMul, Nat.reduceEqDiff, Go.Addr.add, ↓reduceIte] at hx237_0); (try simp only [show (1 : Int).toNat = 1 from rfl, Nat.reduceMul, Nat.reduceEqDiff, Go.Addr.add, ↓reduceIte] at hx237_1); (try simp only [show (1 : Int).toNat = 1 from rfl, Nat.reduceMul, Nat.reduceEqDiff, Go.Addr.add, ↓reduceIte] at hx237_2); (try simp only [show (1 : Int).toNat = 1 from rfl, Nat.reduceMul, Nat.reduceEqDiff, Go.Addr.add, ↓reduceIte] at hx237_3); (try simp only [show (1 : Int).toNat = 1 from rfl, Nat.reduceMul, Nat.reduceEqDiff, Go.Addr.add, ↓reduceIte] at hx237_4); have qi237 : (1 < t228.length) = True := eq_true (by omega); (try rw [show ((1 : Int)).toNat = 1 from rfl] at hx237_0); (try rw [show 1 * 5 = 5 from rfl] at hx237_0); (try rw [show ((1 : Int)).toNat = 1 from rfl] at hx237_1); (try rw [show 1 * 5 = 5 from rfl] at hx237_1); (try rw [show ((1 : Int)).toNat = 1 from rfl] at hx237_2); (try rw [show 1 * 5 = 5 from rfl] at hx237_2); (try rw [show ((1 : Int)).toNat = 1 from rfl] at hx237_3); (try rw [show 1 * 5 = 5 from rfl] at hx237_3); (try rw [show ((1 : Int)).toNat = 1 from rfl] at hx237_4); (try rw [show 1 * 5 = 5 from rfl] at hx237_4); replace p237 := eq_true p237; replace q237 := eq_true q237; have p238 : 0 ≤ (1 : Int) := (by omega); have q238 : 1 < (t228.length : Int) := of_decide_eq_true (by first | (with_reducible assumption) | assumption); obtain ⟨ad238, e238, hx238_0, hx238_1, hx238_2, hx238_3, hx238_4⟩ := at_T46 (Kd.R_reads' HO231.out).2.2 1 p238 q238; obtain rfl : ad236 = ad238 := (by injection e238); (try simp only [show (1 : Int).toNat = 1 from rfl, Nat.reduceMul, Nat.reduceEqDiff, Go.Addr.add, ↓reduceIte] at hx238_0); (try simp only [show (1 : Int).toNat = 1 from rfl, Nat.reduceMul, Nat.reduceEqDiff, Go.Addr.add, ↓reduceIte] at hx238_1); (try simp only [show (1 : Int).toNat = 1 from rfl, Nat.reduceMul, Nat.reduceEqDiff, Go.Addr.add, ↓reduceIte] at hx238_2); (try simp only [show (1 : Int).toNat = 1 from rfl, Nat.reduceMul, Nat.reduceEqDiff, Go.Addr.add, ↓reduceIte] at hx238_3); (try simp only [show (1 : Int).toNat = 1 from rfl, Nat.reduceMul, Nat.reduceEqDiff, Go.Addr.add, ↓reduceIte] at hx238_4); have qi238 : (1 < t228.length) = True := eq_true (by omega); (try rw [show ((1 : Int)).toNat = 1 from rfl] at hx238_0); (try rw [show 1 * 5 = 5 from rfl] at hx238_0); (try rw [show ((1 : Int)).toNat = 1 from rfl] at hx238_1); (try rw [show 1 * 5 = 5 from rfl] at hx238_1); (try rw [show ((1 : Int)).toNat = 1 from rfl] at hx238_2); (try rw [show 1 * 5 = 5 from rfl] at hx238_2); (try rw [show ((1 : Int)).toNat = 1 from rfl] at hx238_3); (try rw [show 1 * 5 = 5 from rfl] at hx238_3); (try rw [show ((1 : Int)).toNat = 1 from rfl] at hx238_4); (try rw [show 1 * 5 = 5 from rfl] at hx238_4); replace p238 := eq_true p238; replace q238 := eq_true q238; have p239 : 0 ≤ (2 : Int) := (by omega); have q239 : 2 < (t228.length : Int) := of_decide_eq_true (by first | (with_reducible assumption) | assumption); obtain ⟨ad239, e239, hx239_0, hx239_1, hx239_2, hx239_3, hx239_4⟩ := at_T46 (Kd.R_reads' HO231.out).2.2 2 p239 q239; obtain rfl : ad236 = ad239 := (by injection e239); (try simp only [show (2 : Int).toNat = 2 from rfl, Nat.reduceMul, Nat.reduceEqDiff, Go.Addr.add, ↓reduceIte] at hx239_0); (try simp only [show (2 : Int).toNat = 2 from rfl, Nat.reduceMul, Nat.reduceEqDiff, Go.Addr.add, ↓reduceIte] at hx239_1); (try simp only [show (2 : Int).toNat = 2 from rfl, Nat.reduceMul, Nat.reduceEqDiff, Go.Addr.add, ↓reduceIte] at hx239_2); (try simp only [show (2 : Int).toNat = 2 from rfl, Nat.reduceMul, Nat.reduceEqDiff, Go.Addr.add, ↓reduceIte] at hx239_3); (try simp only [show (2 : Int).toNat = 2 from rfl, Nat.reduceMul, Nat.reduceEqDiff, Go.Addr.add, ↓reduceIte] at hx239_4); have qi239 : (2 < t228.length) = True := eq_true (by omega); (try rw [show ((2 : Int)).toNat = 2 from rfl] at hx239_0); (try rw [show 2 * 5 = 10 from rfl] at hx239_0); (try rw [show ((2 : Int)).toNat = 2 from rfl] at hx239_1); (try rw [show 2 * 5 = 10 from rfl] at hx239_1); (try rw [show ((2 : Int)).toNat = 2 from rfl] at hx239_2); (try rw [show 2 * 5 = 10 from rfl] at hx239_2); (try rw [show ((2 : Int)).toNat = 2 from rfl] at hx239_3); (try rw [show 2 * 5 = 10 from rfl] at hx239_3); (try rw [show ((2 : Int)).toNat = 2 from rfl] at hx239_4); (try rw [show 2 * 5 = 10 from rfl] at hx239_4); replace p239 := eq_true p239; replace q239 := eq_true q239; have p240 : 0 ≤ (3 : Int) := (by omega); have q240 : 3 < (t228.length : Int) := of_decide_eq_true (by first | (with_reducible assumption) | assumption); obtain ⟨ad240, e240, hx240_0, hx240_1, hx240_2, hx240_3, hx240_4⟩ := at_T46 (Kd.R_reads' HO231.out).2.2 3 p240 q240; obtain rfl : ad236 = ad240 := (by injection e240); (try simp only [show (3 : Int).toNat = 3 from rfl, Nat.reduceMul, Nat.reduceEqDiff, Go.Addr.add, ↓reduceIte] at hx240_0); (try simp only [show (3 : Int).toNat = 3 from rfl, Nat.reduceMul, Nat.reduceEqDiff, Go.Addr.add, ↓reduceIte] at hx240_1); (try simp only [show (3 : Int).toNat = 3 from rfl, Nat.reduceMul, Nat.reduceEqDiff, Go.Addr.add, ↓reduceIte] at hx240_2); (try simp only [show (3 : Int).toNat = 3 from rfl, Nat.reduceMul, Nat.reduceEqDiff, Go.Addr.add, ↓reduceIte] at hx240_3); (try simp only [show (3 : Int).toNat = 3 from rfl, Nat.reduceMul, Nat.reduceEqDiff, Go.Addr.add, ↓reduceIte] at hx240_4); have qi240 : (3 < t228.length) = True := eq_true (by omega); (try rw [show ((3 : Int)).toNat = 3 from rfl] at hx240_0); (try rw [show 3 * 5 = 15 from rfl] at hx240_0); (try rw [show ((3 : Int)).toNat = 3 from rfl] at hx240_1); (try rw [show 3 * 5 = 15 from rfl] at hx240_1); (try rw [show ((3 : Int)).toNat = 3 from rfl] at hx240_2); (try rw [show 3 * 5 = 15 from rfl] at hx240_2); (try rw [show ((3 : Int)).toNat = 3 from rfl] at hx240_3); (try rw [show 3 * 5 = 15 from rfl] at hx240_3); (try rw [show ((3 : Int)).toNat = 3 from rfl] at hx240_4); (try rw [show 3 * 5 = 15 from rfl] at hx240_4); replace p240 := eq_true p240; replace q240 := eq_true q240; have p241 : 0 ≤ (4 : Int) := (by omega); have q241 : 4 < (t228.length : Int) := of_decide_eq_true (by first | (with_reducible assumption) | assumption); obtain ⟨ad241, e241, hx241_0, hx241_1, hx241_2, hx241_3, hx241_4⟩ := at_T46 (Kd.R_reads' HO231.out).2.2 4 p241 q241; obtain rfl : ad236 = ad241 := (by injection e241); (try simp only [show (4 : Int).toNat = 4 from rfl, Nat.reduceMul, Nat.reduceEqDiff, Go.Addr.add, ↓reduceIte] at hx241_0); (try simp only [show (4 : Int).toNat = 4 from rfl, Nat.reduceMul, Nat.reduceEqDiff, Go.Addr.add, ↓reduceIte] at hx241_1); (try simp only [show (4 : Int).toNat = 4 from rfl, Nat.reduceMul, Nat.reduceEqDiff, Go.Addr.add, ↓reduceIte] at hx241_2); (try simp only [show (4 : Int).toNat = 4 from rfl, Nat.reduceMul, Nat.reduceEqDiff, Go.Addr.add, ↓reduceIte] at hx241_3); (try simp only [show (4 : Int).toNat = 4 from rfl, Nat.reduceMul, Nat.reduceEqDiff, Go.Addr.add, ↓reduceIte] at hx241_4); have qi241 : (4 < t228.length) = True := eq_true (by omega); (try rw [show ((4 : Int)).toNat = 4 from rfl] at hx241_0); (try rw [show 4 * 5 = 20 from rfl] at hx241_0); (try rw [show ((4 : Int)).toNat = 4 from rfl] at hx241_1); (try rw [show 4 * 5 = 20 from rfl] at hx241_1); (try rw [show ((4 : Int)).toNat = 4 from rfl] at hx241_2); (try rw [show 4 * 5 = 20 from rfl] at hx241_2); (try rw [show ((4 : Int)).toNat = 4 from rfl] at hx241_3); (try rw [show 4 * 5 = 20 from rfl] at hx241_3); (try rw [show ((4 : Int)).toNat = 4 from rfl] at hx241_4); (try rw [show 4 * 5 = 20 from rfl] at hx241_4); replace p241 := eq_true p241; replace q241 := eq_true q241))
                              go_ret
                              exact ⟨by first | rfl | (simp [errW_none, errW_some] <;> rfl) | (simp [*, errW_none, errW_some] <;> rfl), by repeat (first | (with_reducible first | exact HB.out | apply below_alloc | apply pw_below_drewN | apply below_drew1) | exact HB.out)⟩
                          · rw [if_neg c15] at H
                            exact absurd H (by simp)
                        · rw [if_neg c14] at H
                          have c14b0 : (((rd_T46 t228 3).f4).toList == ([120, 38, 121] : List UInt8)) = false := beq_eq_false_iff_ne.mpr c14
                          have c14b1 : (((rd_T46 t228 3).f4).toList != ([120, 38, 121] : List UInt8)) = true := bne_iff_ne.mpr c14
                          obtain rfl := Option.some.inj H
                          go_enter Try.func37, Try.ntmps37
                          go_wp2_with (first | ((with_reducible refine gate_callee (f := 39) rfl ?_); refine goesL_ (some 6) rfl rfl Try.func39 (by kernel_rfl) rfl #[.string (⟨#[60, 97, 32, 98, 61, 39, 49, 39, 62, 120, 38, 97, 109, 112, 59, 121, 60, 47, 97, 62]⟩ : ByteArray)] rfl (by (try simp only [List.map_toArray, List.map_cons, List.map_nil]); first | done | rfl | (simp only [List.length_drop, List.length_take]; rfl)) ?_; (with_reducible refine (lexer_Lex.calls (⟨#[60, 97, 32, 98, 61, 39, 49, 39, 62, 120, 38, 97, 109, 112, 59, 121, 60, 47, 97, 62]⟩ : ByteArray) t228 t229 _ (by first | exact hG | exact G.below hG (by repeat (first | (with_reducible first | exact HB.out | apply below_alloc | apply pw_below_drewN | apply below_drew1) | exact HB.out))) A1.out).mono ?_); rintro e w23 ⟨v230, rfl, ho0, hb⟩; refine ⟨_, rfl, ?_⟩; have n0_ := Aside0.mk (Kd.R_lower ho0 (below_size (by repeat (first | (with_reducible first | exact HB.out | apply below_alloc | apply pw_below_drewN | apply below_drew1) | exact HB.out)))); have n1_ := Aside0.mk (below_step (by repeat (first | (with_reducible first | exact HB.out | apply below_alloc | apply pw_below_drewN | apply below_drew1) | exact HB.out)) hb); clear HB; have HO231 := n0_; have HB := n1_; clear n0_ n1_; (try clear hb); (try clear hb2); (try clear hk); (try clear hi); (try clear ho0)) | ((with_reducible refine gate_callee (f := 39) rfl ?_); refine goesL_ (some 10) rfl rfl Try.func39 (by kernel_rfl) rfl #[.string (⟨#[60, 97, 32, 98, 62]⟩ : ByteArray)] rfl (by (try simp only [List.map_toArray, List.map_cons, List.map_nil]); first | done | rfl | (simp only [List.length_drop, List.length_take]; rfl)) ?_; (with_reducible refine (lexer_Lex.calls (⟨#[60, 97, 32, 98, 62]⟩ : ByteArray) t232 t233 _ (by first | exact hG | exact G.below hG (by repeat (first | (with_reducible first | exact HB.out | apply below_alloc | apply pw_below_drewN | apply below_drew1) | exact HB.out))) A2.out).mono ?_); rintro e w24 ⟨v234, rfl, ho0, hb⟩; refine ⟨_, rfl, ?_⟩; have n0_ := Aside0.mk (Kd.R_elder' (by (with_reducible repeat (first | apply Kd.R_alloc | apply Kd.R_drewN | apply Kd.R_drew)); exact HO231.out) (Kd.R_base ho0) hb); have n1_ := Aside0.mk (Kd.R_lower (Kd.R_new' ho0 (Kd.R_lt (by (with_reducible repeat (first | apply Kd.R_alloc | apply Kd.R_drewN | apply Kd.R_drew)); exact HO231.out))) (below_size (by repeat (first | (with_reducible first | exact HB.out | apply below_alloc | apply pw_below_drewN | apply below_drew1) | exact HB.out)))); have n2_ := Aside0.mk (below_step (by repeat (first | (with_reducible first | exact HB.out | apply below_alloc | apply pw_below_drewN | apply below_drew1) | exact HB.out)) hb); clear HO231; clear HB; have HO231 := n0_; have HO235 := n1_; have HB := n2_; clear n0_ n1_ n2_; (try clear hb); (try clear hb2); (try clear hk); (try clear hi); (try clear ho0); obtain ⟨Ao25, co25, eo25⟩ := Kd.R_slice HO231.out; subst eo25; have p236 : 0 ≤ (0 : Int) := (by omega); have q236 : 0 < (t228.length : Int) := of_decide_eq_true (by first | (with_reducible assumption) | assumption); obtain ⟨ad236, e236, hx236_0, hx236_1, hx236_2, hx236_3, hx236_4⟩ := at_T46 (Kd.R_reads' HO231.out).2.2 0 p236 q236; cases e236; have qi236 : (0 < t228.length) = True := eq_true (by omega); (try rw [show ((0 : Int)).toNat = 0 from rfl] at hx236_0); (try rw [show 0 * 5 = 0 from rfl] at hx236_0); (try rw [Addr.add_zero'] at hx236_0); (try rw [show ((0 : Int)).toNat = 0 from rfl] at hx236_1); (try rw [show 0 * 5 = 0 from rfl] at hx236_1); (try rw [Addr.add_zero'] at hx236_1); (try rw [show ((0 : Int)).toNat = 0 from rfl] at hx236_2); (try rw [show 0 * 5 = 0 from rfl] at hx236_2); (try rw [Addr.add_zero'] at hx236_2); (try rw [show ((0 : Int)).toNat = 0 from rfl] at hx236_3); (try rw [show 0 * 5 = 0 from rfl] at hx236_3); (try rw [Addr.add_zero'] at hx236_3); (try rw [show ((0 : Int)).toNat = 0 from rfl] at hx236_4); (try rw [show 0 * 5 = 0 from rfl] at hx236_4); (try rw [Addr.add_zero'] at hx236_4); replace p236 := eq_true p236; replace q236 := eq_true q236; have p237 : 0 ≤ (1 : Int) := (by omega); have q237 : 1 < (t228.length : Int) := of_decide_eq_true (by first | (with_reducible assumption) | assumption); obtain ⟨ad237, e237, hx237_0, hx237_1, hx237_2, hx237_3, hx237_4⟩ := at_T46 (Kd.R_reads' HO231.out).2.2 1 p237 q237; obtain rfl : ad236 = ad237 := (by injection e237); (try simp only [show (1 : Int).toNat = 1 from rfl, Nat.reduceMul, Nat.reduceEqDiff, Go.Addr.add, ↓reduceIte] at hx237_0); (try simp only [show (1 : Int).toNat = 1 from rfl, Nat.reduceMul, Nat.reduceEqDiff, Go.Addr.add, ↓reduceIte] at hx237_1); (try simp only [show (1 : Int).toNat = 1 from rfl, Nat.reduceMul, Nat.reduceEqDiff, Go.Addr.add, ↓reduceIte] at hx237_2); (try simp only [show (1 : Int).toNat = 1 from rfl, Nat.reduceMul, Nat.reduceEqDiff, Go.Addr.add, ↓reduceIte] at hx237_3); (try simp only [show (1 : Int).toNat = 1 from rfl, Nat.reduceMul, Nat.reduceEqDiff, Go.Addr.add, ↓reduceIte] at hx237_4); have qi237 : (1 < t228.length) = True := eq_true (by omega); (try rw [show ((1 : Int)).toNat = 1 from rfl] at hx237_0); (try rw [show 1 * 5 = 5 from rfl] at hx237_0); (try rw [show ((1 : Int)).toNat = 1 from rfl] at hx237_1); (try rw [show 1 * 5 = 5 from rfl] at hx237_1); (try rw [show ((1 : Int)).toNat = 1 from rfl] at hx237_2); (try rw [show 1 * 5 = 5 from rfl] at hx237_2); (try rw [show ((1 : Int)).toNat = 1 from rfl] at hx237_3); (try rw [show 1 * 5 = 5 from rfl] at hx237_3); (try rw [show ((1 : Int)).toNat = 1 from rfl] at hx237_4); (try rw [show 1 * 5 = 5 from rfl] at hx237_4); replace p237 := eq_true p237; replace q237 := eq_true q237; have p238 : 0 ≤ (1 : Int) := (by omega); have q238 : 1 < (t228.length : Int) := of_decide_eq_true (by first | (with_reducible assumption) | assumption); obtain ⟨ad238, e238, hx238_0, hx238_1, hx238_2, hx238_3, hx238_4⟩ := at_T46 (Kd.R_reads' HO231.out).2.2 1 p238 q238; obtain rfl : ad236 = ad238 := (by injection e238); (try simp only [show (1 : Int).toNat = 1 from rfl, Nat.reduceMul, Nat.reduceEqDiff, Go.Addr.add, ↓reduceIte] at hx238_0); (try simp only [show (1 : Int).toNat = 1 from rfl, Nat.reduceMul, Nat.reduceEqDiff, Go.Addr.add, ↓reduceIte] at hx238_1); (try simp only [show (1 : Int).toNat = 1 from rfl, Nat.reduceMul, Nat.reduceEqDiff, Go.Addr.add, ↓reduceIte] at hx238_2); (try simp only [show (1 : Int).toNat = 1 from rfl, Nat.reduceMul, Nat.reduceEqDiff, Go.Addr.add, ↓reduceIte] at hx238_3); (try simp only [show (1 : Int).toNat = 1 from rfl, Nat.reduceMul, Nat.reduceEqDiff, Go.Addr.add, ↓reduceIte] at hx238_4); have qi238 : (1 < t228.length) = True := eq_true (by omega); (try rw [show ((1 : Int)).toNat = 1 from rfl] at hx238_0); (try rw [show 1 * 5 = 5 from rfl] at hx238_0); (try rw [show ((1 : Int)).toNat = 1 from rfl] at hx238_1); (try rw [show 1 * 5 = 5 from rfl] at hx238_1); (try rw [show ((1 : Int)).toNat = 1 from rfl] at hx238_2); (try rw [show 1 * 5 = 5 from rfl] at hx238_2); (try rw [show ((1 : Int)).toNat = 1 from rfl] at hx238_3); (try rw [show 1 * 5 = 5 from rfl] at hx238_3); (try rw [show ((1 : Int)).toNat = 1 from rfl] at hx238_4); (try rw [show 1 * 5 = 5 from rfl] at hx238_4); replace p238 := eq_true p238; replace q238 := eq_true q238; have p239 : 0 ≤ (2 : Int) := (by omega); have q239 : 2 < (t228.length : Int) := of_decide_eq_true (by first | (with_reducible assumption) | assumption); obtain ⟨ad239, e239, hx239_0, hx239_1, hx239_2, hx239_3, hx239_4⟩ := at_T46 (Kd.R_reads' HO231.out).2.2 2 p239 q239; obtain rfl : ad236 = ad239 := (by injection e239); (try simp only [show (2 : Int).toNat = 2 from rfl, Nat.reduceMul, Nat.reduceEqDiff, Go.Addr.add, ↓reduceIte] at hx239_0); (try simp only [show (2 : Int).toNat = 2 from rfl, Nat.reduceMul, Nat.reduceEqDiff, Go.Addr.add, ↓reduceIte] at hx239_1); (try simp only [show (2 : Int).toNat = 2 from rfl, Nat.reduceMul, Nat.reduceEqDiff, Go.Addr.add, ↓reduceIte] at hx239_2); (try simp only [show (2 : Int).toNat = 2 from rfl, Nat.reduceMul, Nat.reduceEqDiff, Go.Addr.add, ↓reduceIte] at hx239_3); (try simp only [show (2 : Int).toNat = 2 from rfl, Nat.reduceMul, Nat.reduceEqDiff, Go.Addr.add, ↓reduceIte] at hx239_4); have qi239 : (2 < t228.length) = True := eq_true (by omega); (try rw [show ((2 : Int)).toNat = 2 from rfl] at hx239_0); (try rw [show 2 * 5 = 10 from rfl] at hx239_0); (try rw [show ((2 : Int)).toNat = 2 from rfl] at hx239_1); (try rw [show 2 * 5 = 10 from rfl] at hx239_1); (try rw [show ((2 : Int)).toNat = 2 from rfl] at hx239_2); (try rw [show 2 * 5 = 10 from rfl] at hx239_2); (try rw [show ((2 : Int)).toNat = 2 from rfl] at hx239_3); (try rw [show 2 * 5 = 10 from rfl] at hx239_3); (try rw [show ((2 : Int)).toNat = 2 from rfl] at hx239_4); (try rw [show 2 * 5 = 10 from rfl] at hx239_4); replace p239 := eq_true p239; replace q239 := eq_true q239; have p240 : 0 ≤ (3 : Int) := (by omega); have q240 : 3 < (t228.length : Int) := of_decide_eq_true (by first | (with_reducible assumption) | assumption); obtain ⟨ad240, e240, hx240_0, hx240_1, hx240_2, hx240_3, hx240_4⟩ := at_T46 (Kd.R_reads' HO231.out).2.2 3 p240 q240; obtain rfl : ad236 = ad240 := (by injection e240); (try simp only [show (3 : Int).toNat = 3 from rfl, Nat.reduceMul, Nat.reduceEqDiff, Go.Addr.add, ↓reduceIte] at hx240_0); (try simp only [show (3 : Int).toNat = 3 from rfl, Nat.reduceMul, Nat.reduceEqDiff, Go.Addr.add, ↓reduceIte] at hx240_1); (try simp only [show (3 : Int).toNat = 3 from rfl, Nat.reduceMul, Nat.reduceEqDiff, Go.Addr.add, ↓reduceIte] at hx240_2); (try simp only [show (3 : Int).toNat = 3 from rfl, Nat.reduceMul, Nat.reduceEqDiff, Go.Addr.add, ↓reduceIte] at hx240_3); (try simp only [show (3 : Int).toNat = 3 from rfl, Nat.reduceMul, Nat.reduceEqDiff, Go.Addr.add, ↓reduceIte] at hx240_4); have qi240 : (3 < t228.length) = True := eq_true (by omega); (try rw [show ((3 : Int)).toNat = 3 from rfl] at hx240_0); (try rw [show 3 * 5 = 15 from rfl] at hx240_0); (try rw [show ((3 : Int)).toNat = 3 from rfl] at hx240_1); (try rw [show 3 * 5 = 15 from rfl] at hx240_1); (try rw [show ((3 : Int)).toNat = 3 from rfl] at hx240_2); (try rw [show 3 * 5 = 15 from rfl] at hx240_2); (try rw [show ((3 : Int)).toNat = 3 from rfl] at hx240_3); (try rw [show 3 * 5 = 15 from rfl] at hx240_3); (try rw [show ((3 : Int)).toNat = 3 from rfl] at hx240_4); (try rw [show 3 * 5 = 15 from rfl] at hx240_4); replace p240 := eq_true p240; replace q240 := eq_true q240))
                          go_ret
                          exact ⟨by first | rfl | (simp [errW_none, errW_some] <;> rfl) | (simp [*, errW_none, errW_some] <;> rfl), by repeat (first | (with_reducible first | exact HB.out | apply below_alloc | apply pw_below_drewN | apply below_drew1) | exact HB.out)⟩
                      · rw [if_neg c13] at H
                        exact absurd H (by simp)
                    · rw [if_neg c12] at H
                      have c12b0 : (((rd_T46 t228 2).f0) == 3) = false := beq_eq_false_iff_ne.mpr c12
                      have c12b1 : (((rd_T46 t228 2).f0) != 3) = true := bne_iff_ne.mpr c12
                      obtain rfl := Option.some.inj H
                      go_enter Try.func37, Try.ntmps37
                      go_wp2_with (first | ((with_reducible refine gate_callee (f := 39) rfl ?_); refine goesL_ (some 6) rfl rfl Try.func39 (by kernel_rfl) rfl #[.string (⟨#[60, 97, 32, 98, 61, 39, 49, 39, 62, 120, 38, 97, 109, 112, 59, 121, 60, 47, 97, 62]⟩ : ByteArray)] rfl (by (try simp only [List.map_toArray, List.map_cons, List.map_nil]); first | done | rfl | (simp only [List.length_drop, List.length_take]; rfl)) ?_; (with_reducible refine (lexer_Lex.calls (⟨#[60, 97, 32, 98, 61, 39, 49, 39, 62, 120, 38, 97, 109, 112, 59, 121, 60, 47, 97, 62]⟩ : ByteArray) t228 t229 _ (by first | exact hG | exact G.below hG (by repeat (first | (with_reducible first | exact HB.out | apply below_alloc | apply pw_below_drewN | apply below_drew1) | exact HB.out))) A1.out).mono ?_); rintro e w26 ⟨v230, rfl, ho0, hb⟩; refine ⟨_, rfl, ?_⟩; have n0_ := Aside0.mk (Kd.R_lower ho0 (below_size (by repeat (first | (with_reducible first | exact HB.out | apply below_alloc | apply pw_below_drewN | apply below_drew1) | exact HB.out)))); have n1_ := Aside0.mk (below_step (by repeat (first | (with_reducible first | exact HB.out | apply below_alloc | apply pw_below_drewN | apply below_drew1) | exact HB.out)) hb); clear HB; have HO231 := n0_; have HB := n1_; clear n0_ n1_; (try clear hb); (try clear hb2); (try clear hk); (try clear hi); (try clear ho0)) | ((with_reducible refine gate_callee (f := 39) rfl ?_); refine goesL_ (some 10) rfl rfl Try.func39 (by kernel_rfl) rfl #[.string (⟨#[60, 97, 32, 98, 62]⟩ : ByteArray)] rfl (by (try simp only [List.map_toArray, List.map_cons, List.map_nil]); first | done | rfl | (simp only [List.length_drop, List.length_take]; rfl)) ?_; (with_reducible refine (lexer_Lex.calls (⟨#[60, 97, 32, 98, 62]⟩ : ByteArray) t232 t233 _ (by first | exact hG | exact G.below hG (by repeat (first | (with_reducible first | exact HB.out | apply below_alloc | apply pw_below_drewN | apply below_drew1) | exact HB.out))) A2.out).mono ?_); rintro e w27 ⟨v234, rfl, ho0, hb⟩; refine ⟨_, rfl, ?_⟩; have n0_ := Aside0.mk (Kd.R_elder' (by (with_reducible repeat (first | apply Kd.R_alloc | apply Kd.R_drewN | apply Kd.R_drew)); exact HO231.out) (Kd.R_base ho0) hb); have n1_ := Aside0.mk (Kd.R_lower (Kd.R_new' ho0 (Kd.R_lt (by (with_reducible repeat (first | apply Kd.R_alloc | apply Kd.R_drewN | apply Kd.R_drew)); exact HO231.out))) (below_size (by repeat (first | (with_reducible first | exact HB.out | apply below_alloc | apply pw_below_drewN | apply below_drew1) | exact HB.out)))); have n2_ := Aside0.mk (below_step (by repeat (first | (with_reducible first | exact HB.out | apply below_alloc | apply pw_below_drewN | apply below_drew1) | exact HB.out)) hb); clear HO231; clear HB; have HO231 := n0_; have HO235 := n1_; have HB := n2_; clear n0_ n1_ n2_; (try clear hb); (try clear hb2); (try clear hk); (try clear hi); (try clear ho0); obtain ⟨Ao28, co28, eo28⟩ := Kd.R_slice HO231.out; subst eo28; have p236 : 0 ≤ (0 : Int) := (by omega); have q236 : 0 < (t228.length : Int) := of_decide_eq_true (by first | (with_reducible assumption) | assumption); obtain ⟨ad236, e236, hx236_0, hx236_1, hx236_2, hx236_3, hx236_4⟩ := at_T46 (Kd.R_reads' HO231.out).2.2 0 p236 q236; cases e236; have qi236 : (0 < t228.length) = True := eq_true (by omega); (try rw [show ((0 : Int)).toNat = 0 from rfl] at hx236_0); (try rw [show 0 * 5 = 0 from rfl] at hx236_0); (try rw [Addr.add_zero'] at hx236_0); (try rw [show ((0 : Int)).toNat = 0 from rfl] at hx236_1); (try rw [show 0 * 5 = 0 from rfl] at hx236_1); (try rw [Addr.add_zero'] at hx236_1); (try rw [show ((0 : Int)).toNat = 0 from rfl] at hx236_2); (try rw [show 0 * 5 = 0 from rfl] at hx236_2); (try rw [Addr.add_zero'] at hx236_2); (try rw [show ((0 : Int)).toNat = 0 from rfl] at hx236_3); (try rw [show 0 * 5 = 0 from rfl] at hx236_3); (try rw [Addr.add_zero'] at hx236_3); (try rw [show ((0 : Int)).toNat = 0 from rfl] at hx236_4); (try rw [show 0 * 5 = 0 from rfl] at hx236_4); (try rw [Addr.add_zero'] at hx236_4); replace p236 := eq_true p236; replace q236 := eq_true q236; have p237 : 0 ≤ (1 : Int) := (by omega); have q237 : 1 < (t228.length : Int) := of_decide_eq_true (by first | (with_reducible assumption) | assumption); obtain ⟨ad237, e237, hx237_0, hx237_1, hx237_2, hx237_3, hx237_4⟩ := at_T46 (Kd.R_reads' HO231.out).2.2 1 p237 q237; obtain rfl : ad236 = ad237 := (by injection e237); (try simp only [show (1 : Int).toNat = 1 from rfl, Nat.reduceMul, Nat.reduceEqDiff, Go.Addr.add, ↓reduceIte] at hx237_0); (try simp only [show (1 : Int).toNat = 1 from rfl, Nat.reduceMul, Nat.reduceEqDiff, Go.Addr.add, ↓reduceIte] at hx237_1); (try simp only [show (1 : Int).toNat = 1 from rfl, Nat.reduceMul, Nat.reduceEqDiff, Go.Addr.add, ↓reduceIte] at hx237_2); (try simp only [show (1 : Int).toNat = 1 from rfl, Nat.reduceMul, Nat.reduceEqDiff, Go.Addr.add, ↓reduceIte] at hx237_3); (try simp only [show (1 : Int).toNat = 1 from rfl, Nat.reduceMul, Nat.reduceEqDiff, Go.Addr.add, ↓reduceIte] at hx237_4); have qi237 : (1 < t228.length) = True := eq_true (by omega); (try rw [show ((1 : Int)).toNat = 1 from rfl] at hx237_0); (try rw [show 1 * 5 = 5 from rfl] at hx237_0); (try rw [show ((1 : Int)).toNat = 1 from rfl] at hx237_1); (try rw [show 1 * 5 = 5 from rfl] at hx237_1); (try rw [show ((1 : Int)).toNat = 1 from rfl] at hx237_2); (try rw [show 1 * 5 = 5 from rfl] at hx237_2); (try rw [show ((1 : Int)).toNat = 1 from rfl] at hx237_3); (try rw [show 1 * 5 = 5 from rfl] at hx237_3); (try rw [show ((1 : Int)).toNat = 1 from rfl] at hx237_4); (try rw [show 1 * 5 = 5 from rfl] at hx237_4); replace p237 := eq_true p237; replace q237 := eq_true q237; have p238 : 0 ≤ (1 : Int) := (by omega); have q238 : 1 < (t228.length : Int) := of_decide_eq_true (by first | (with_reducible assumption) | assumption); obtain ⟨ad238, e238, hx238_0, hx238_1, hx238_2, hx238_3, hx238_4⟩ := at_T46 (Kd.R_reads' HO231.out).2.2 1 p238 q238; obtain rfl : ad236 = ad238 := (by injection e238); (try simp only [show (1 : Int).toNat = 1 from rfl, Nat.reduceMul, Nat.reduceEqDiff, Go.Addr.add, ↓reduceIte] at hx238_0); (try simp only [show (1 : Int).toNat = 1 from rfl, Nat.reduceMul, Nat.reduceEqDiff, Go.Addr.add, ↓reduceIte] at hx238_1); (try simp only [show (1 : Int).toNat = 1 from rfl, Nat.reduceMul, Nat.reduceEqDiff, Go.Addr.add, ↓reduceIte] at hx238_2); (try simp only [show (1 : Int).toNat = 1 from rfl, Nat.reduceMul, Nat.reduceEqDiff, Go.Addr.add, ↓reduceIte] at hx238_3); (try simp only [show (1 : Int).toNat = 1 from rfl, Nat.reduceMul, Nat.reduceEqDiff, Go.Addr.add, ↓reduceIte] at hx238_4); have qi238 : (1 < t228.length) = True := eq_true (by omega); (try rw [show ((1 : Int)).toNat = 1 from rfl] at hx238_0); (try rw [show 1 * 5 = 5 from rfl] at hx238_0); (try rw [show ((1 : Int)).toNat = 1 from rfl] at hx238_1); (try rw [show 1 * 5 = 5 from rfl] at hx238_1); (try rw [show ((1 : Int)).toNat = 1 from rfl] at hx238_2); (try rw [show 1 * 5 = 5 from rfl] at hx238_2); (try rw [show ((1 : Int)).toNat = 1 from rfl] at hx238_3); (try rw [show 1 * 5 = 5 from rfl] at hx238_3); (try rw [show ((1 : Int)).toNat = 1 from rfl] at hx238_4); (try rw [show 1 * 5 = 5 from rfl] at hx238_4); replace p238 := eq_true p238; replace q238 := eq_true q238; have p239 : 0 ≤ (2 : Int) := (by omega); have q239 : 2 < (t228.length : Int) := of_decide_eq_true (by first | (with_reducible assumption) | assumption); obtain ⟨ad239, e239, hx239_0, hx239_1, hx239_2, hx239_3, hx239_4⟩ := at_T46 (Kd.R_reads' HO231.out).2.2 2 p239 q239; obtain rfl : ad236 = ad239 := (by injection e239); (try simp only [show (2 : Int).toNat = 2 from rfl, Nat.reduceMul, Nat.reduceEqDiff, Go.Addr.add, ↓reduceIte] at hx239_0); (try simp only [show (2 : Int).toNat = 2 from rfl, Nat.reduceMul, Nat.reduceEqDiff, Go.Addr.add, ↓reduceIte] at hx239_1); (try simp only [show (2 : Int).toNat = 2 from rfl, Nat.reduceMul, Nat.reduceEqDiff, Go.Addr.add, ↓reduceIte] at hx239_2); (try simp only [show (2 : Int).toNat = 2 from rfl, Nat.reduceMul, Nat.reduceEqDiff, Go.Addr.add, ↓reduceIte] at hx239_3); (try simp only [show (2 : Int).toNat = 2 from rfl, Nat.reduceMul, Nat.reduceEqDiff, Go.Addr.add, ↓reduceIte] at hx239_4); have qi239 : (2 < t228.length) = True := eq_true (by omega); (try rw [show ((2 : Int)).toNat = 2 from rfl] at hx239_0); (try rw [show 2 * 5 = 10 from rfl] at hx239_0); (try rw [show ((2 : Int)).toNat = 2 from rfl] at hx239_1); (try rw [show 2 * 5 = 10 from rfl] at hx239_1); (try rw [show ((2 : Int)).toNat = 2 from rfl] at hx239_2); (try rw [show 2 * 5 = 10 from rfl] at hx239_2); (try rw [show ((2 : Int)).toNat = 2 from rfl] at hx239_3); (try rw [show 2 * 5 = 10 from rfl] at hx239_3); (try rw [show ((2 : Int)).toNat = 2 from rfl] at hx239_4); (try rw [show 2 * 5 = 10 from rfl] at hx239_4); replace p239 := eq_true p239; replace q239 := eq_true q239))
                      go_ret
                      exact ⟨by first | rfl | (simp [errW_none, errW_some] <;> rfl) | (simp [*, errW_none, errW_some] <;> rfl), by repeat (first | (with_reducible first | exact HB.out | apply below_alloc | apply pw_below_drewN | apply below_drew1) | exact HB.out)⟩
                  · rw [if_neg c11] at H
                    exact absurd H (by simp)
                · rw [if_neg c10] at H
                  have c10b0 : (((rd_T46 t228 1).f4).toList == ([49] : List UInt8)) = false := beq_eq_false_iff_ne.mpr c10
                  have c10b1 : (((rd_T46 t228 1).f4).toList != ([49] : List UInt8)) = true := bne_iff_ne.mpr c10
                  obtain rfl := Option.some.inj H
                  go_enter Try.func37, Try.ntmps37
                  go_wp2_with (first | ((with_reducible refine gate_callee (f := 39) rfl ?_); refine goesL_ (some 6) rfl rfl Try.func39 (by kernel_rfl) rfl #[.string (⟨#[60, 97, 32, 98, 61, 39, 49, 39, 62, 120, 38, 97, 109, 112, 59, 121, 60, 47, 97, 62]⟩ : ByteArray)] rfl (by (try simp only [List.map_toArray, List.map_cons, List.map_nil]); first | done | rfl | (simp only [List.length_drop, List.length_take]; rfl)) ?_; (with_reducible refine (lexer_Lex.calls (⟨#[60, 97, 32, 98, 61, 39, 49, 39, 62, 120, 38, 97, 109, 112, 59, 121, 60, 47, 97, 62]⟩ : ByteArray) t228 t229 _ (by first | exact hG | exact G.below hG (by repeat (first | (with_reducible first | exact HB.out | apply below_alloc | apply pw_below_drewN | apply below_drew1) | exact HB.out))) A1.out).mono ?_); rintro e w29 ⟨v230, rfl, ho0, hb⟩; refine ⟨_, rfl, ?_⟩; have n0_ := Aside0.mk (Kd.R_lower ho0 (below_size (by repeat (first | (with_reducible first | exact HB.out | apply below_alloc | apply pw_below_drewN | apply below_drew1) | exact HB.out)))); have n1_ := Aside0.mk (below_step (by repeat (first | (with_reducible first | exact HB.out | apply below_alloc | apply pw_below_drewN | apply below_drew1) | exact HB.out)) hb); clear HB; have HO231 := n0_; have HB := n1_; clear n0_ n1_; (try clear hb); (try clear hb2); (try clear hk); (try clear hi); (try clear ho0)) | ((with_reducible refine gate_callee (f := 39) rfl ?_); refine goesL_ (some 10) rfl rfl Try.func39 (by kernel_rfl) rfl #[.string (⟨#[60, 97, 32, 98, 62]⟩ : ByteArray)] rfl (by (try simp only [List.map_toArray, List.map_cons, List.map_nil]); first | done | rfl | (simp only [List.length_drop, List.length_take]; rfl)) ?_; (with_reducible refine (lexer_Lex.calls (⟨#[60, 97, 32, 98, 62]⟩ : ByteArray) t232 t233 _ (by first | exact hG | exact G.below hG (by repeat (first | (with_reducible first | exact HB.out | apply below_alloc | apply pw_below_drewN | apply below_drew1) | exact HB.out))) A2.out).mono ?_); rintro e w30 ⟨v234, rfl, ho0, hb⟩; refine ⟨_, rfl, ?_⟩; have n0_ := Aside0.mk (Kd.R_elder' (by (with_reducible repeat (first | apply Kd.R_alloc | apply Kd.R_drewN | apply Kd.R_drew)); exact HO231.out) (Kd.R_base ho0) hb); have n1_ := Aside0.mk (Kd.R_lower (Kd.R_new' ho0 (Kd.R_lt (by (with_reducible repeat (first | apply Kd.R_alloc | apply Kd.R_drewN | apply Kd.R_drew)); exact HO231.out))) (below_size (by repeat (first | (with_reducible first | exact HB.out | apply below_alloc | apply pw_below_drewN | apply below_drew1) | exact HB.out)))); have n2_ := Aside0.mk (below_step (by repeat (first | (with_reducible first | exact HB.out | apply below_alloc | apply pw_below_drewN | apply below_drew1) | exact HB.out)) hb); clear HO231; clear HB; have HO231 := n0_; have HO235 := n1_; have HB := n2_; clear n0_ n1_ n2_; (try clear hb); (try clear hb2); (try clear hk); (try clear hi); (try clear ho0); obtain ⟨Ao31, co31, eo31⟩ := Kd.R_slice HO231.out; subst eo31; have p236 : 0 ≤ (0 : Int) := (by omega); have q236 : 0 < (t228.length : Int) := of_decide_eq_true (by first | (with_reducible assumption) | assumption); obtain ⟨ad236, e236, hx236_0, hx236_1, hx236_2, hx236_3, hx236_4⟩ := at_T46 (Kd.R_reads' HO231.out).2.2 0 p236 q236; cases e236; have qi236 : (0 < t228.length) = True := eq_true (by omega); (try rw [show ((0 : Int)).toNat = 0 from rfl] at hx236_0); (try rw [show 0 * 5 = 0 from rfl] at hx236_0); (try rw [Addr.add_zero'] at hx236_0); (try rw [show ((0 : Int)).toNat = 0 from rfl] at hx236_1); (try rw [show 0 * 5 = 0 from rfl] at hx236_1); (try rw [Addr.add_zero'] at hx236_1); (try rw [show ((0 : Int)).toNat = 0 from rfl] at hx236_2); (try rw [show 0 * 5 = 0 from rfl] at hx236_2); (try rw [Addr.add_zero'] at hx236_2); (try rw [show ((0 : Int)).toNat = 0 from rfl] at hx236_3); (try rw [show 0 * 5 = 0 from rfl] at hx236_3); (try rw [Addr.add_zero'] at hx236_3); (try rw [show ((0 : Int)).toNat = 0 from rfl] at hx236_4); (try rw [show 0 * 5 = 0 from rfl] at hx236_4); (try rw [Addr.add_zero'] at hx236_4); replace p236 := eq_true p236; replace q236 := eq_true q236; have p237 : 0 ≤ (1 : Int) := (by omega); have q237 : 1 < (t228.length : Int) := of_decide_eq_true (by first | (with_reducible assumption) | assumption); obtain ⟨ad237, e237, hx237_0, hx237_1, hx237_2, hx237_3, hx237_4⟩ := at_T46 (Kd.R_reads' HO231.out).2.2 1 p237 q237; obtain rfl : ad236 = ad237 := (by injection e237); (try simp only [show (1 : Int).toNat = 1 from rfl, Nat.reduceMul, Nat.reduceEqDiff, Go.Addr.add, ↓reduceIte] at hx237_0); (try simp only [show (1 : Int).toNat = 1 from rfl, Nat.reduceMul, Nat.reduceEqDiff, Go.Addr.add, ↓reduceIte] at hx237_1); (try simp only [show (1 : Int).toNat = 1 from rfl, Nat.reduceMul, Nat.reduceEqDiff, Go.Addr.add, ↓reduceIte] at hx237_2); (try simp only [show (1 : Int).toNat = 1 from rfl, Nat.reduceMul, Nat.reduceEqDiff, Go.Addr.add, ↓reduceIte] at hx237_3); (try simp only [show (1 : Int).toNat = 1 from rfl, Nat.reduceMul, Nat.reduceEqDiff, Go.Addr.add, ↓reduceIte] at hx237_4); have qi237 : (1 < t228.length) = True := eq_true (by omega); (try rw [show ((1 : Int)).toNat = 1 from rfl] at hx237_0); (try rw [show 1 * 5 = 5 from rfl] at hx237_0); (try rw [show ((1 : Int)).toNat = 1 from rfl] at hx237_1); (try rw [show 1 * 5 = 5 from rfl] at hx237_1); (try rw [show ((1 : Int)).toNat = 1 from rfl] at hx237_2); (try rw [show 1 * 5 = 5 from rfl] at hx237_2); (try rw [show ((1 : Int)).toNat = 1 from rfl] at hx237_3); (try rw [show 1 * 5 = 5 from rfl] at hx237_3); (try rw [show ((1 : Int)).toNat = 1 from rfl] at hx237_4); (try rw [show 1 * 5 = 5 from rfl] at hx237_4); replace p237 := eq_true p237; replace q237 := eq_true q237; have p238 : 0 ≤ (1 : Int) := (by omega); have q238 : 1 < (t228.length : Int) := of_decide_eq_true (by first | (with_reducible assumption) | assumption); obtain ⟨ad238, e238, hx238_0, hx238_1, hx238_2, hx238_3, hx238_4⟩ := at_T46 (Kd.R_reads' HO231.out).2.2 1 p238 q238; obtain rfl : ad236 = ad238 := (by injection e238); (try simp only [show (1 : Int).toNat = 1 from rfl, Nat.reduceMul, Nat.reduceEqDiff, Go.Addr.add, ↓reduceIte] at hx238_0); (try simp only [show (1 : Int).toNat = 1 from rfl, Nat.reduceMul, Nat.reduceEqDiff, Go.Addr.add, ↓reduceIte] at hx238_1); (try simp only [show (1 : Int).toNat = 1 from rfl, Nat.reduceMul, Nat.reduceEqDiff, Go.Addr.add, ↓reduceIte] at hx238_2); (try simp only [show (1 : Int).toNat = 1 from rfl, Nat.reduceMul, Nat.reduceEqDiff, Go.Addr.add, ↓reduceIte] at hx238_3); (try simp only [show (1 : Int).toNat = 1 from rfl, Nat.reduceMul, Nat.reduceEqDiff, Go.Addr.add, ↓reduceIte] at hx238_4); have qi238 : (1 < t228.length) = True := eq_true (by omega); (try rw [show ((1 : Int)).toNat = 1 from rfl] at hx238_0); (try rw [show 1 * 5 = 5 from rfl] at hx238_0); (try rw [show ((1 : Int)).toNat = 1 from rfl] at hx238_1); (try rw [show 1 * 5 = 5 from rfl] at hx238_1); (try rw [show ((1 : Int)).toNat = 1 from rfl] at hx238_2); (try rw [show 1 * 5 = 5 from rfl] at hx238_2); (try rw [show ((1 : Int)).toNat = 1 from rfl] at hx238_3); (try rw [show 1 * 5 = 5 from rfl] at hx238_3); (try rw [show ((1 : Int)).toNat = 1 from rfl] at hx238_4); (try rw [show 1 * 5 = 5 from rfl] at hx238_4); replace p238 := eq_true p238; replace q238 := eq_true q238))
                  go_ret
                  exact ⟨by first | rfl | (simp [errW_none, errW_some] <;> rfl) | (simp [*, errW_none, errW_some] <;> rfl), by repeat (first | (with_reducible first | exact HB.out | apply below_alloc | apply pw_below_drewN | apply below_drew1) | exact HB.out)⟩
              · rw [if_neg c9] at H
                have c9b0 : (((rd_T46 t228 1).f3).toList == ([98] : List UInt8)) = false := beq_eq_false_iff_ne.mpr c9
                have c9b1 : (((rd_T46 t228 1).f3).toList != ([98] : List UInt8)) = true := bne_iff_ne.mpr c9
                obtain rfl := Option.some.inj H
                go_enter Try.func37, Try.ntmps37
                go_wp2_with (first | ((with_reducible refine gate_callee (f := 39) rfl ?_); refine goesL_ (some 6) rfl rfl Try.func39 (by kernel_rfl) rfl #[.string (⟨#[60, 97, 32, 98, 61, 39, 49, 39, 62, 120, 38, 97, 109, 112, 59, 121, 60, 47, 97, 62]⟩ : ByteArray)] rfl (by (try simp only [List.map_toArray, List.map_cons, List.map_nil]); first | done | rfl | (simp only [List.length_drop, List.length_take]; rfl)) ?_; (with_reducible refine (lexer_Lex.calls (⟨#[60, 97, 32, 98, 61, 39, 49, 39, 62, 120, 38, 97, 109, 112, 59, 121, 60, 47, 97, 62]⟩ : ByteArray) t228 t229 _ (by first | exact hG | exact G.below hG (by repeat (first | (with_reducible first | exact HB.out | apply below_alloc | apply pw_below_drewN | apply below_drew1) | exact HB.out))) A1.out).mono ?_); rintro e w32 ⟨v230, rfl, ho0, hb⟩; refine ⟨_, rfl, ?_⟩; have n0_ := Aside0.mk (Kd.R_lower ho0 (below_size (by repeat (first | (with_reducible first | exact HB.out | apply below_alloc | apply pw_below_drewN | apply below_drew1) | exact HB.out)))); have n1_ := Aside0.mk (below_step (by repeat (first | (with_reducible first | exact HB.out | apply below_alloc | apply pw_below_drewN | apply below_drew1) | exact HB.out)) hb); clear HB; have HO231 := n0_; have HB := n1_; clear n0_ n1_; (try clear hb); (try clear hb2); (try clear hk); (try clear hi); (try clear ho0)) | ((with_reducible refine gate_callee (f := 39) rfl ?_); refine goesL_ (some 10) rfl rfl Try.func39 (by kernel_rfl) rfl #[.string (⟨#[60, 97, 32, 98, 62]⟩ : ByteArray)] rfl (by (try simp only [List.map_toArray, List.map_cons, List.map_nil]); first | done | rfl | (simp only [List.length_drop, List.length_take]; rfl)) ?_; (with_reducible refine (lexer_Lex.calls (⟨#[60, 97, 32, 98, 62]⟩ : ByteArray) t232 t233 _ (by first | exact hG | exact G.below hG (by repeat (first | (with_reducible first | exact HB.out | apply below_alloc | apply pw_below_drewN | apply below_drew1) | exact HB.out))) A2.out).mono ?_); rintro e w33 ⟨v234, rfl, ho0, hb⟩; refine ⟨_, rfl, ?_⟩; have n0_ := Aside0.mk (Kd.R_elder' (by (with_reducible repeat (first | apply Kd.R_alloc | apply Kd.R_drewN | apply Kd.R_drew)); exact HO231.out) (Kd.R_base ho0) hb); have n1_ := Aside0.mk (Kd.R_lower (Kd.R_new' ho0 (Kd.R_lt (by (with_reducible repeat (first | apply Kd.R_alloc | apply Kd.R_drewN | apply Kd.R_drew)); exact HO231.out))) (below_size (by repeat (first | (with_reducible first | exact HB.out | apply below_alloc | apply pw_below_drewN | apply below_drew1) | exact HB.out)))); have n2_ := Aside0.mk (below_step (by repeat (first | (with_reducible first | exact HB.out | apply below_alloc | apply pw_below_drewN | apply below_drew1) | exact HB.out)) hb); clear HO231; clear HB; have HO231 := n0_; have HO235 := n1_; have HB := n2_; clear n0_ n1_ n2_; (try clear hb); (try clear hb2); (try clear hk); (try clear hi); (try clear ho0); obtain ⟨Ao34, co34, eo34⟩ := Kd.R_slice HO231.out; subst eo34; have p236 : 0 ≤ (0 : Int) := (by omega); have q236 : 0 < (t228.length : Int) := of_decide_eq_true (by first | (with_reducible assumption) | assumption); obtain ⟨ad236, e236, hx236_0, hx236_1, hx236_2, hx236_3, hx236_4⟩ := at_T46 (Kd.R_reads' HO231.out).2.2 0 p236 q236; cases e236; have qi236 : (0 < t228.length) = True := eq_true (by omega); (try rw [show ((0 : Int)).toNat = 0 from rfl] at hx236_0); (try rw [show 0 * 5 = 0 from rfl] at hx236_0); (try rw [Addr.add_zero'] at hx236_0); (try rw [show ((0 : Int)).toNat = 0 from rfl] at hx236_1); (try rw [show 0 * 5 = 0 from rfl] at hx236_1); (try rw [Addr.add_zero'] at hx236_1); (try rw [show ((0 : Int)).toNat = 0 from rfl] at hx236_2); (try rw [show 0 * 5 = 0 from rfl] at hx236_2); (try rw [Addr.add_zero'] at hx236_2); (try rw [show ((0 : Int)).toNat = 0 from rfl] at hx236_3); (try rw [show 0 * 5 = 0 from rfl] at hx236_3); (try rw [Addr.add_zero'] at hx236_3); (try rw [show ((0 : Int)).toNat = 0 from rfl] at hx236_4); (try rw [show 0 * 5 = 0 from rfl] at hx236_4); (try rw [Addr.add_zero'] at hx236_4); replace p236 := eq_true p236; replace q236 := eq_true q236; have p237 : 0 ≤ (1 : Int) := (by omega); have q237 : 1 < (t228.length : Int) := of_decide_eq_true (by first | (with_reducible assumption) | assumption); obtain ⟨ad237, e237, hx237_0, hx237_1, hx237_2, hx237_3, hx237_4⟩ := at_T46 (Kd.R_reads' HO231.out).2.2 1 p237 q237; obtain rfl : ad236 = ad237 := (by injection e237); (try simp only [show (1 : Int).toNat = 1 from rfl, Nat.reduceMul, Nat.reduceEqDiff, Go.Addr.add, ↓reduceIte] at hx237_0); (try simp only [show (1 : Int).toNat = 1 from rfl, Nat.reduceMul, Nat.reduceEqDiff, Go.Addr.add, ↓reduceIte] at hx237_1); (try simp only [show (1 : Int).toNat = 1 from rfl, Nat.reduceMul, Nat.reduceEqDiff, Go.Addr.add, ↓reduceIte] at hx237_2); (try simp only [show (1 : Int).toNat = 1 from rfl, Nat.reduceMul, Nat.reduceEqDiff, Go.Addr.add, ↓reduceIte] at hx237_3); (try simp only [show (1 : Int).toNat = 1 from rfl, Nat.reduceMul, Nat.reduceEqDiff, Go.Addr.add, ↓reduceIte] at hx237_4); have qi237 : (1 < t228.length) = True := eq_true (by omega); (try rw [show ((1 : Int)).toNat = 1 from rfl] at hx237_0); (try rw [show 1 * 5 = 5 from rfl] at hx237_0); (try rw [show ((1 : Int)).toNat = 1 from rfl] at hx237_1); (try rw [show 1 * 5 = 5 from rfl] at hx237_1); (try rw [show ((1 : Int)).toNat = 1 from rfl] at hx237_2); (try rw [show 1 * 5 = 5 from rfl] at hx237_2); (try rw [show ((1 : Int)).toNat = 1 from rfl] at hx237_3); (try rw [show 1 * 5 = 5 from rfl] at hx237_3); (try rw [show ((1 : Int)).toNat = 1 from rfl] at hx237_4); (try rw [show 1 * 5 = 5 from rfl] at hx237_4); replace p237 := eq_true p237; replace q237 := eq_true q237))
                go_ret
                exact ⟨by first | rfl | (simp [errW_none, errW_some] <;> rfl) | (simp [*, errW_none, errW_some] <;> rfl), by repeat (first | (with_reducible first | exact HB.out | apply below_alloc | apply pw_below_drewN | apply below_drew1) | exact HB.out)⟩
            · rw [if_neg c8] at H
              exact absurd H (by simp)
          · rw [if_neg c7] at H
            have c7b0 : (((rd_T46 t228 0).f0) == 1) = false := beq_eq_false_iff_ne.mpr c7
            have c7b1 : (((rd_T46 t228 0).f0) != 1) = true := bne_iff_ne.mpr c7
            obtain rfl := Option.some.inj H
            go_enter Try.func37, Try.ntmps37
            go_wp2_with (first | ((with_reducible refine gate_callee (f := 39) rfl ?_); refine goesL_ (some 6) rfl rfl Try.func39 (by kernel_rfl) rfl #[.string (⟨#[60, 97, 32, 98, 61, 39, 49, 39, 62, 120, 38, 97, 109, 112, 59, 121, 60, 47, 97, 62]⟩ : ByteArray)] rfl (by (try simp only [List.map_toArray, List.map_cons, List.map_nil]); first | done | rfl | (simp only [List.length_drop, List.length_take]; rfl)) ?_; (with_reducible refine (lexer_Lex.calls (⟨#[60, 97, 32, 98, 61, 39, 49, 39, 62, 120, 38, 97, 109, 112, 59, 121, 60, 47, 97, 62]⟩ : ByteArray) t228 t229 _ (by first | exact hG | exact G.below hG (by repeat (first | (with_reducible first | exact HB.out | apply below_alloc | apply pw_below_drewN | apply below_drew1) | exact HB.out))) A1.out).mono ?_); rintro e w35 ⟨v230, rfl, ho0, hb⟩; refine ⟨_, rfl, ?_⟩; have n0_ := Aside0.mk (Kd.R_lower ho0 (below_size (by repeat (first | (with_reducible first | exact HB.out | apply below_alloc | apply pw_below_drewN | apply below_drew1) | exact HB.out)))); have n1_ := Aside0.mk (below_step (by repeat (first | (with_reducible first | exact HB.out | apply below_alloc | apply pw_below_drewN | apply below_drew1) | exact HB.out)) hb); clear HB; have HO231 := n0_; have HB := n1_; clear n0_ n1_; (try clear hb); (try clear hb2); (try clear hk); (try clear hi); (try clear ho0)) | ((with_reducible refine gate_callee (f := 39) rfl ?_); refine goesL_ (some 10) rfl rfl Try.func39 (by kernel_rfl) rfl #[.string (⟨#[60, 97, 32, 98, 62]⟩ : ByteArray)] rfl (by (try simp only [List.map_toArray, List.map_cons, List.map_nil]); first | done | rfl | (simp only [List.length_drop, List.length_take]; rfl)) ?_; (with_reducible refine (lexer_Lex.calls (⟨#[60, 97, 32, 98, 62]⟩ : ByteArray) t232 t233 _ (by first | exact hG | exact G.below hG (by repeat (first | (with_reducible first | exact HB.out | apply below_alloc | apply pw_below_drewN | apply below_drew1) | exact HB.out))) A2.out).mono ?_); rintro e w36 ⟨v234, rfl, ho0, hb⟩; refine ⟨_, rfl, ?_⟩; have n0_ := Aside0.mk (Kd.R_elder' (by (with_reducible repeat (first | apply Kd.R_alloc | apply Kd.R_drewN | apply Kd.R_drew)); exact HO231.out) (Kd.R_base ho0) hb); have n1_ := Aside0.mk (Kd.R_lower (Kd.R_new' ho0 (Kd.R_lt (by (with_reducible repeat (first | apply Kd.R_alloc | apply Kd.R_drewN | apply Kd.R_drew)); exact HO231.out))) (below_size (by repeat (first | (with_reducible first | exact HB.out | apply below_alloc | apply pw_below_drewN | apply below_drew1) | exact HB.out)))); have n2_ := Aside0.mk (below_step (by repeat (first | (with_reducible first | exact HB.out | apply below_alloc | apply pw_below_drewN | apply below_drew1) | exact HB.out)) hb); clear HO231; clear HB; have HO231 := n0_; have HO235 := n1_; have HB := n2_; clear n0_ n1_ n2_; (try clear hb); (try clear hb2); (try clear hk); (try clear hi); (try clear ho0); obtain ⟨Ao37, co37, eo37⟩ := Kd.R_slice HO231.out; subst eo37; have p236 : 0 ≤ (0 : Int) := (by omega); have q236 : 0 < (t228.length : Int) := of_decide_eq_true (by first | (with_reducible assumption) | assumption); obtain ⟨ad236, e236, hx236_0, hx236_1, hx236_2, hx236_3, hx236_4⟩ := at_T46 (Kd.R_reads' HO231.out).2.2 0 p236 q236; cases e236; have qi236 : (0 < t228.length) = True := eq_true (by omega); (try rw [show ((0 : Int)).toNat = 0 from rfl] at hx236_0); (try rw [show 0 * 5 = 0 from rfl] at hx236_0); (try rw [Addr.add_zero'] at hx236_0); (try rw [show ((0 : Int)).toNat = 0 from rfl] at hx236_1); (try rw [show 0 * 5 = 0 from rfl] at hx236_1); (try rw [Addr.add_zero'] at hx236_1); (try rw [show ((0 : Int)).toNat = 0 from rfl] at hx236_2); (try rw [show 0 * 5 = 0 from rfl] at hx236_2); (try rw [Addr.add_zero'] at hx236_2); (try rw [show ((0 : Int)).toNat = 0 from rfl] at hx236_3); (try rw [show 0 * 5 = 0 from rfl] at hx236_3); (try rw [Addr.add_zero'] at hx236_3); (try rw [show ((0 : Int)).toNat = 0 from rfl] at hx236_4); (try rw [show 0 * 5 = 0 from rfl] at hx236_4); (try rw [Addr.add_zero'] at hx236_4); replace p236 := eq_true p236; replace q236 := eq_true q236))
            go_ret
            exact ⟨by first | rfl | (simp [errW_none, errW_some] <;> rfl) | (simp [*, errW_none, errW_some] <;> rfl), by repeat (first | (with_reducible first | exact HB.out | apply below_alloc | apply pw_below_drewN | apply below_drew1) | exact HB.out)⟩
        · rw [if_neg c6] at H
          exact absurd H (by simp)
      · rw [if_neg c5] at H
        have c5b0 : ((t228.length : Int) == 5) = false := beq_eq_false_iff_ne.mpr c5
        have c5b1 : ((t228.length : Int) != 5) = true := bne_iff_ne.mpr c5
        obtain rfl := Option.some.inj H
        go_enter Try.func37, Try.ntmps37
        go_wp2_with (first | ((with_reducible refine gate_callee (f := 39) rfl ?_); refine goesL_ (some 6) rfl rfl Try.func39 (by kernel_rfl) rfl #[.string (⟨#[60, 97, 32, 98, 61, 39, 49, 39, 62, 120, 38, 97, 109, 112, 59, 121, 60, 47, 97, 62]⟩ : ByteArray)] rfl (by (try simp only [List.map_toArray, List.map_cons, List.map_nil]); first | done | rfl | (simp only [List.length_drop, List.length_take]; rfl)) ?_; (with_reducible refine (lexer_Lex.calls (⟨#[60, 97, 32, 98, 61, 39, 49, 39, 62, 120, 38, 97, 109, 112, 59, 121, 60, 47, 97, 62]⟩ : ByteArray) t228 t229 _ (by first | exact hG | exact G.below hG (by repeat (first | (with_reducible first | exact HB.out | apply below_alloc | apply pw_below_drewN | apply below_drew1) | exact HB.out))) A1.out).mono ?_); rintro e w38 ⟨v230, rfl, ho0, hb⟩; refine ⟨_, rfl, ?_⟩; have n0_ := Aside0.mk (Kd.R_lower ho0 (below_size (by repeat (first | (with_reducible first | exact HB.out | apply below_alloc | apply pw_below_drewN | apply below_drew1) | exact HB.out)))); have n1_ := Aside0.mk (below_step (by repeat (first | (with_reducible first | exact HB.out | apply below_alloc | apply pw_below_drewN | apply below_drew1) | exact HB.out)) hb); clear HB; have HO231 := n0_; have HB := n1_; clear n0_ n1_; (try clear hb); (try clear hb2); (try clear hk); (try clear hi); (try clear ho0)) | ((with_reducible refine gate_callee (f := 39) rfl ?_); refine goesL_ (some 10) rfl rfl Try.func39 (by kernel_rfl) rfl #[.string (⟨#[60, 97, 32, 98, 62]⟩ : ByteArray)] rfl (by (try simp only [List.map_toArray, List.map_cons, List.map_nil]); first | done | rfl | (simp only [List.length_drop, List.length_take]; rfl)) ?_; (with_reducible refine (lexer_Lex.calls (⟨#[60, 97, 32, 98, 62]⟩ : ByteArray) t232 t233 _ (by first | exact hG | exact G.below hG (by repeat (first | (with_reducible first | exact HB.out | apply below_alloc | apply pw_below_drewN | apply below_drew1) | exact HB.out))) A2.out).mono ?_); rintro e w39 ⟨v234, rfl, ho0, hb⟩; refine ⟨_, rfl, ?_⟩; have n0_ := Aside0.mk (Kd.R_elder' (by (with_reducible repeat (first | apply Kd.R_alloc | apply Kd.R_drewN | apply Kd.R_drew)); exact HO231.out) (Kd.R_base ho0) hb); have n1_ := Aside0.mk (Kd.R_lower (Kd.R_new' ho0 (Kd.R_lt (by (with_reducible repeat (first | apply Kd.R_alloc | apply Kd.R_drewN | apply Kd.R_drew)); exact HO231.out))) (below_size (by repeat (first | (with_reducible first | exact HB.out | apply below_alloc | apply pw_below_drewN | apply below_drew1) | exact HB.out)))); have n2_ := Aside0.mk (below_step (by repeat (first | (with_reducible first | exact HB.out | apply below_alloc | apply pw_below_drewN | apply below_drew1) | exact HB.out)) hb); clear HO231; clear HB; have HO231 := n0_; have HO235 := n1_; have HB := n2_; clear n0_ n1_ n2_; (try clear hb); (try clear hb2); (try clear hk); (try clear hi); (try clear ho0); obtain ⟨Ao40, co40, eo40⟩ := Kd.R_slice HO231.out; subst eo40))
        go_ret
        exact ⟨by first | rfl | (simp [errW_none, errW_some] <;> rfl) | (simp [*, errW_none, errW_some] <;> rfl), by repeat (first | (with_reducible first | exact HB.out | apply below_alloc | apply pw_below_drewN | apply below_drew1) | exact HB.out)⟩
    · rw [if_neg c4] at H
      have c4b0 : (t233 == 15) = false := beq_eq_false_iff_ne.mpr c4
      have c4b1 : (t233 != 15) = true := bne_iff_ne.mpr c4
      obtain rfl := Option.some.inj H
      go_enter Try.func37, Try.ntmps37
      go_wp2_with (first | ((with_reducible refine gate_callee (f := 39) rfl ?_); refine goesL_ (some 6) rfl rfl Try.func39 (by kernel_rfl) rfl #[.string (⟨#[60, 97, 32, 98, 61, 39, 49, 39, 62, 120, 38, 97, 109, 112, 59, 121, 60, 47, 97, 62]⟩ : ByteArray)] rfl (by (try simp only [List.map_toArray, List.map_cons, List.map_nil]); first | done | rfl | (simp only [List.length_drop, List.length_take]; rfl)) ?_; (with_reducible refine (lexer_Lex.calls (⟨#[60, 97, 32, 98, 61, 39, 49, 39, 62, 120, 38, 97, 109, 112, 59, 121, 60, 47, 97, 62]⟩ : ByteArray) t228 t229 _ (by first | exact hG | exact G.below hG (by repeat (first | (with_reducible first | exact HB.out | apply below_alloc | apply pw_below_drewN | apply below_drew1) | exact HB.out))) A1.out).mono ?_); rintro e w41 ⟨v230, rfl, ho0, hb⟩; refine ⟨_, rfl, ?_⟩; have n0_ := Aside0.mk (Kd.R_lower ho0 (below_size (by repeat (first | (with_reducible first | exact HB.out | apply below_alloc | apply pw_below_drewN | apply below_drew1) | exact HB.out)))); have n1_ := Aside0.mk (below_step (by repeat (first | (with_reducible first | exact HB.out | apply below_alloc | apply pw_below_drewN | apply below_drew1) | exact HB.out)) hb); clear HB; have HO231 := n0_; have HB := n1_; clear n0_ n1_; (try clear hb); (try clear hb2); (try clear hk); (try clear hi); (try clear ho0)) | ((with_reducible refine gate_callee (f := 39) rfl ?_); refine goesL_ (some 10) rfl rfl Try.func39 (by kernel_rfl) rfl #[.string (⟨#[60, 97, 32, 98, 62]⟩ : ByteArray)] rfl (by (try simp only [List.map_toArray, List.map_cons, List.map_nil]); first | done | rfl | (simp only [List.length_drop, List.length_take]; rfl)) ?_; (with_reducible refine (lexer_Lex.calls (⟨#[60, 97, 32, 98, 62]⟩ : ByteArray) t232 t233 _ (by first | exact hG | exact G.below hG (by repeat (first | (with_reducible first | exact HB.out | apply below_alloc | apply pw_below_drewN | apply below_drew1) | exact HB.out))) A2.out).mono ?_); rintro e w42 ⟨v234, rfl, ho0, hb⟩; refine ⟨_, rfl, ?_⟩; have n0_ := Aside0.mk (Kd.R_elder' (by (with_reducible repeat (first | apply Kd.R_alloc | apply Kd.R_drewN | apply Kd.R_drew)); exact HO231.out) (Kd.R_base ho0) hb); have n1_ := Aside0.mk (Kd.R_lower (Kd.R_new' ho0 (Kd.R_lt (by (with_reducible repeat (first | apply Kd.R_alloc | apply Kd.R_drewN | apply Kd.R_drew)); exact HO231.out))) (below_size (by repeat (first | (with_reducible first | exact HB.out | apply below_alloc | apply pw_below_drewN | apply below_drew1) | exact HB.out)))); have n2_ := Aside0.mk (below_step (by repeat (first | (with_reducible first | exact HB.out | apply below_alloc | apply pw_below_drewN | apply below_drew1) | exact HB.out)) hb); clear HO231; clear HB; have HO231 := n0_; have HO235 := n1_; have HB := n2_; clear n0_ n1_ n2_; (try clear hb); (try clear hb2); (try clear hk); (try clear hi); (try clear ho0)))
      go_ret
      exact ⟨by first | rfl | (simp [errW_none, errW_some] <;> rfl) | (simp [*, errW_none, errW_some] <;> rfl), by repeat (first | (with_reducible first | exact HB.out | apply below_alloc | apply pw_below_drewN | apply below_drew1) | exact HB.out)⟩
  · rw [if_neg c3] at H
    have c3b0 : (t229 == 0) = false := beq_eq_false_iff_ne.mpr c3
    have c3b1 : (t229 != 0) = true := bne_iff_ne.mpr c3
    obtain rfl := Option.some.inj H
    go_enter Try.func37, Try.ntmps37
    go_wp2_with (first | ((with_reducible refine gate_callee (f := 39) rfl ?_); refine goesL_ (some 6) rfl rfl Try.func39 (by kernel_rfl) rfl #[.string (⟨#[60, 97, 32, 98, 61, 39, 49, 39, 62, 120, 38, 97, 109, 112, 59, 121, 60, 47, 97, 62]⟩ : ByteArray)] rfl (by (try simp only [List.map_toArray, List.map_cons, List.map_nil]); first | done | rfl | (simp only [List.length_drop, List.length_take]; rfl)) ?_; (with_reducible refine (lexer_Lex.calls (⟨#[60, 97, 32, 98, 61, 39, 49, 39, 62, 120, 38, 97, 109, 112, 59, 121, 60, 47, 97, 62]⟩ : ByteArray) t228 t229 _ (by first | exact hG | exact G.below hG (by repeat (first | (with_reducible first | exact HB.out | apply below_alloc | apply pw_below_drewN | apply below_drew1) | exact HB.out))) A1.out).mono ?_); rintro e w43 ⟨v230, rfl, ho0, hb⟩; refine ⟨_, rfl, ?_⟩; have n0_ := Aside0.mk (Kd.R_lower ho0 (below_size (by repeat (first | (with_reducible first | exact HB.out | apply below_alloc | apply pw_below_drewN | apply below_drew1) | exact HB.out)))); have n1_ := Aside0.mk (below_step (by repeat (first | (with_reducible first | exact HB.out | apply below_alloc | apply pw_below_drewN | apply below_drew1) | exact HB.out)) hb); clear HB; have HO231 := n0_; have HB := n1_; clear n0_ n1_; (try clear hb); (try clear hb2); (try clear hk); (try clear hi); (try clear ho0)) | ((with_reducible refine gate_callee (f := 39) rfl ?_); refine goesL_ (some 10) rfl rfl Try.func39 (by kernel_rfl) rfl #[.string (⟨#[60, 97, 32, 98, 62]⟩ : ByteArray)] rfl (by (try simp only [List.map_toArray, List.map_cons, List.map_nil]); first | done | rfl | (simp only [List.length_drop, List.length_take]; rfl)) ?_; (with_reducible refine (lexer_Lex.calls (⟨#[60, 97, 32, 98, 62]⟩ : ByteArray) t232 t233 _ (by first | exact hG | exact G.below hG (by repeat (first | (with_reducible first | exact HB.out | apply below_alloc | apply pw_below_drewN | apply below_drew1) | exact HB.out))) A2.out).mono ?_); rintro e w44 ⟨v234, rfl, ho0, hb⟩; refine ⟨_, rfl, ?_⟩; have n0_ := Aside0.mk (Kd.R_elder' (by (with_reducible repeat (first | apply Kd.R_alloc | apply Kd.R_drewN | apply Kd.R_drew)); exact HO231.out) (Kd.R_base ho0) hb); have n1_ := Aside0.mk (Kd.R_lower (Kd.R_new' ho0 (Kd.R_lt (by (with_reducible repeat (first | apply Kd.R_alloc | apply Kd.R_drewN | apply Kd.R_drew)); exact HO231.out))) (below_size (by repeat (first | (with_reducible first | exact HB.out | apply below_alloc | apply pw_below_drewN | apply below_drew1) | exact HB.out)))); have n2_ := Aside0.mk (below_step (by repeat (first | (with_reducible first | exact HB.out | apply below_alloc | apply pw_below_drewN | apply below_drew1) | exact HB.out)) hb); clear HO231; clear HB; have HO231 := n0_; have HO235 := n1_; have HB := n2_; clear n0_ n1_ n2_; (try clear hb); (try clear hb2); (try clear hk); (try clear hi); (try clear ho0)))
    go_ret
    exact ⟨by first | rfl | (simp [errW_none, errW_some] <;> rfl) | (simp [*, errW_none, errW_some] <;> rfl), by repeat (first | (with_reducible first | exact HB.out | apply below_alloc | apply pw_below_drewN | apply below_drew1) | exact HB.out)⟩
def topiarylaw12_short.f (a0 : ByteArray) (a1 : Int) : Option (ByteArray) := if (a0.size : Int) > a1 then (if 0 ≤ a1 then (if a1 ≤ (a0.size : Int) then (some (a0.extract 0 (a1 : Int).toNat)) else (none)) else (none)) else (some a0)
set_option maxHeartbeats 8000000 in
set_option maxRecDepth 100000 in
theorem topiarylaw12_short.calls (a0 : ByteArray) (a1 : Int) (r : ByteArray) (w : World) (h : topiarylaw12_short.f a0 a1 = some r) :
    Calls Try.prog 38 #[.string a0, .int .i64 a1] w fun e w' => e = .returned (.string r) ∧ Drawn0 w w' := by
  have H : (if (a0.size : Int) > a1 then (if 0 ≤ a1 then (if a1 ≤ (a0.size : Int) then (some (a0.extract 0 (a1 : Int).toNat)) else (none)) else (none)) else (some a0)) = some r := h
  clear h
  by_cases c3 : (a0.size : Int) > a1
  · rw [if_pos c3] at H
    have c3b0 : decide (a1 < (a0.size : Int)) = true := decide_eq_true c3
    clear c3
    by_cases c4 : 0 ≤ a1
    · rw [if_pos c4] at H
      have c4b0 := eq_true c4
      have c4b1 : decide (0 ≤ a1) = true := decide_eq_true c4
      clear c4
      by_cases c5 : a1 ≤ (a0.size : Int)
      · rw [if_pos c5] at H
        have c5b0 := eq_true c5
        have c5b1 : decide (a1 ≤ (a0.size : Int)) = true := decide_eq_true c5
        clear c5
        obtain rfl := Option.some.inj H
        go_enter Try.func38, Try.ntmps38
        go_wp2
        go_ret
        exact ⟨by first | rfl | (simp; done) | (simp [*]; done), by repeat (first | exact Drawn0.refl _ | apply Drawn0.step)⟩
      · rw [if_neg c5] at H
        exact absurd H (by simp)
    · rw [if_neg c4] at H
      exact absurd H (by simp)
  · rw [if_neg c3] at H
    have c3b0 : decide (a1 < (a0.size : Int)) = false := decide_eq_false c3
    clear c3
    obtain rfl := Option.some.inj H
    go_enter Try.func38, Try.ntmps38
    go_wp2
    go_ret
    exact ⟨by first | rfl | (simp; done) | (simp [*]; done), by repeat (first | exact Drawn0.refl _ | apply Drawn0.step)⟩
end Go.Proofs.Ytekkaoenabjeiaa.Q
end
section
namespace Go.Proofs.Ytekkaoenabjeiaa.X
end Go.Proofs.Ytekkaoenabjeiaa.X
namespace Go.Proofs.Ytekkaoenabjeiaa.Q
open Go.RowKit Go.Proofs.YtekkaoenabjeiaaW.PrintWords Go.Proofs.YtekkaoenabjeiaaW.PrintLast Go.Proofs.YtekkaoenabjeiaaW.PrintMore
attribute [local go_sem] max2_int min2_int max_two min_two max_three min_three max_four min_four   
open Go.Proofs.Ytekkaoenabjeiaa.X
set_option linter.unusedVariables false
set_option linter.unusedSimpArgs false
mutual
def topiarylaw12_LexerStands.l0 : Nat → ByteArray → Bool → List (S46) → Int → Bool → Int → Option (Bool)
  | 0, _, _, _, _, _, _ => none
  | k + 1, x0, x3, x4, x6, x7, x8 => if x8 < (x4.length : Int) then (if 0 ≤ x8 then (if ((rd_T46 x4 x8).f1) < x6 then (topiarylaw12_LexerStands.j1 k x0 x3 x4 x6 x7 x8 true ((rd_T46 x4 x8).f0) ((rd_T46 x4 x8).f1) ((rd_T46 x4 x8).f2) ((rd_T46 x4 x8).f3) ((rd_T46 x4 x8).f4)) else (if ((rd_T46 x4 x8).f2) ≤ ((rd_T46 x4 x8).f1) then (topiarylaw12_LexerStands.j1 k x0 x3 x4 x6 x7 x8 true ((rd_T46 x4 x8).f0) ((rd_T46 x4 x8).f1) ((rd_T46 x4 x8).f2) ((rd_T46 x4 x8).f3) ((rd_T46 x4 x8).f4)) else (topiarylaw12_LexerStands.j1 k x0 x3 x4 x6 x7 x8 (decide (((rd_T46 x4 x8).f2) > (x0.size : Int))) ((rd_T46 x4 x8).f0) ((rd_T46 x4 x8).f1) ((rd_T46 x4 x8).f2) ((rd_T46 x4 x8).f3) ((rd_T46 x4 x8).f4)))) else (none)) else (if x3 = true then (if x6 = (x0.size : Int) then (some (!x7)) else (some false)) else (some false))
def topiarylaw12_LexerStands.j1 : Nat → ByteArray → Bool → List (S46) → Int → Bool → Int → Bool → Int → Int → Int → ByteArray → ByteArray → Option (Bool)
  | 0, _, _, _, _, _, _, _, _, _, _, _, _ => none
  | k + 1, x0, x3, x4, x6, x7, x8, x55, x345000, x345001, x345002, x345003, x345004 => if x55 = true then (some false) else (topiarylaw12_LexerStands.l1 k x0 x3 x4 x7 x8 x6 x345000 x345001 x345002 x345003 x345004)
def topiarylaw12_LexerStands.l1 : Nat → ByteArray → Bool → List (S46) → Bool → Int → Int → Int → Int → Int → ByteArray → ByteArray → Option (Bool)
  | 0, _, _, _, _, _, _, _, _, _, _, _ => none
  | k + 1, x0, x3, x4, x7, x8, x10, x345000, x345001, x345002, x345003, x345004 => if x10 < x345001 then (if 0 ≤ x10 then (if x10 < (x0.size : Int) then ((topiaryref11_Space.f (bt x0 x10)).bind fun t345 => (if t345 = true then (if x7 = true then (topiarylaw12_LexerStands.l1 k x0 x3 x4 x7 x8 (wrap64 (x10 + 1)) x345000 x345001 x345002 x345003 x345004) else (some false)) else (some false))) else (none)) else (none)) else (if x345000 = 2 then (if (x7 != true) = true then (some false) else (if x345000 = 1 then (topiarylaw12_LexerStands.l0 k x0 x3 x4 x345002 true (wrap64 (x8 + 1))) else (topiarylaw12_LexerStands.l0 k x0 x3 x4 x345002 (x345000 == 2) (wrap64 (x8 + 1))))) else (if x345000 = 3 then (if (x7 != true) = true then (some false) else (if x345000 = 1 then (topiarylaw12_LexerStands.l0 k x0 x3 x4 x345002 true (wrap64 (x8 + 1))) else (topiarylaw12_LexerStands.l0 k x0 x3 x4 x345002 (x345000 == 2) (wrap64 (x8 + 1))))) else (if (x7 != (x345000 == 4)) = true then (some false) else (if x345000 = 1 then (topiarylaw12_LexerStands.l0 k x0 x3 x4 x345002 true (wrap64 (x8 + 1))) else (topiarylaw12_LexerStands.l0 k x0 x3 x4 x345002 (x345000 == 2) (wrap64 (x8 + 1)))))))
end
def topiarylaw12_LexerStands.f (k : Nat) (a0 : ByteArray) : Option (Bool) := (topiarylaw12_awake.f).bind fun t337 => ((topiarylaw12_short.f a0 200).bind fun t338 => ((lexer_Lex.f t338).bind fun bt339 => (if bt339.2 = 0 then (topiarylaw12_LexerStands.l0 k t338 t337 bt339.1 0 false 0) else (if t337 = true then (some ((bt339.1.length : Int) == 0)) else (some false)))))
theorem topiarylaw12_LexerStands.mono_l : ∀ k, (∀ y0 y1 y2 y3 y4 y5, LeO (topiarylaw12_LexerStands.l0 k y0 y1 y2 y3 y4 y5) (topiarylaw12_LexerStands.l0 (k + 1) y0 y1 y2 y3 y4 y5)) ∧ (∀ y0 y1 y2 y3 y4 y5 y6 y7 y8 y9 y10 y11, LeO (topiarylaw12_LexerStands.j1 k y0 y1 y2 y3 y4 y5 y6 y7 y8 y9 y10 y11) (topiarylaw12_LexerStands.j1 (k + 1) y0 y1 y2 y3 y4 y5 y6 y7 y8 y9 y10 y11)) ∧ (∀ y0 y1 y2 y3 y4 y5 y6 y7 y8 y9 y10, LeO (topiarylaw12_LexerStands.l1 k y0 y1 y2 y3 y4 y5 y6 y7 y8 y9 y10) (topiarylaw12_LexerStands.l1 (k + 1) y0 y1 y2 y3 y4 y5 y6 y7 y8 y9 y10))
  | 0 => ⟨fun _ _ _ _ _ _ r h => by simp [topiarylaw12_LexerStands.l0] at h, fun _ _ _ _ _ _ _ _ _ _ _ _ r h => by simp [topiarylaw12_LexerStands.j1] at h, fun _ _ _ _ _ _ _ _ _ _ _ r h => by simp [topiarylaw12_LexerStands.l1] at h⟩
  | k + 1 => by
    obtain ⟨ih0, ih1, ih2⟩ := topiarylaw12_LexerStands.mono_l k
    refine ⟨?_, ?_, ?_⟩
    · intro y0 y1 y2 y3 y4 y5
      unfold topiarylaw12_LexerStands.l0
      repeat' first
      | (with_reducible exact ih0 _ _ _ _ _ _)
      | (with_reducible exact ih1 _ _ _ _ _ _ _ _ _ _ _ _)
      | (with_reducible exact ih2 _ _ _ _ _ _ _ _ _ _ _)
      | (with_reducible exact LeO.refl _)
      | (with_reducible exact LeO.none _)
      | (with_reducible refine LeO.ite ?_ ?_)
      | (with_reducible refine LeO.bind ?_ (fun _ => ?_))
      | exact ih0 _ _ _ _ _ _
      | exact ih1 _ _ _ _ _ _ _ _ _ _ _ _
      | exact ih2 _ _ _ _ _ _ _ _ _ _ _
      | exact LeO.none _
      | refine LeO.ite ?_ ?_
      | refine LeO.bind ?_ (fun _ => ?_)
    · intro y0 y1 y2 y3 y4 y5 y6 y7 y8 y9 y10 y11
      unfold topiarylaw12_LexerStands.j1
      repeat' first
      | (with_reducible exact ih0 _ _ _ _ _ _)
      | (with_reducible exact ih1 _ _ _ _ _ _ _ _ _ _ _ _)
      | (with_reducible exact ih2 _ _ _ _ _ _ _ _ _ _ _)
      | (with_reducible exact LeO.refl _)
      | (with_reducible exact LeO.none _)
      | (with_reducible refine LeO.ite ?_ ?_)
      | (with_reducible refine LeO.bind ?_ (fun _ => ?_))
      | exact ih0 _ _ _ _ _ _
      | exact ih1 _ _ _ _ _ _ _ _ _ _ _ _
      | exact ih2 _ _ _ _ _ _ _ _ _ _ _
      | exact LeO.none _
      | refine LeO.ite ?_ ?_
      | refine LeO.bind ?_ (fun _ => ?_)
    · intro y0 y1 y2 y3 y4 y5 y6 y7 y8 y9 y10
      unfold topiarylaw12_LexerStands.l1
      repeat' first
      | (with_reducible exact ih0 _ _ _ _ _ _)
      | (with_reducible exact ih1 _ _ _ _ _ _ _ _ _ _ _ _)
      | (with_reducible exact ih2 _ _ _ _ _ _ _ _ _ _ _)
      | (with_reducible exact LeO.refl _)
      | (with_reducible exact LeO.none _)
      | (with_reducible refine LeO.ite ?_ ?_)
      | (with_reducible refine LeO.bind ?_ (fun _ => ?_))
      | exact ih0 _ _ _ _ _ _
      | exact ih1 _ _ _ _ _ _ _ _ _ _ _ _
      | exact ih2 _ _ _ _ _ _ _ _ _ _ _
      | exact LeO.none _
      | refine LeO.ite ?_ ?_
      | refine LeO.bind ?_ (fun _ => ?_)
theorem topiarylaw12_LexerStands.mono : ∀ a0 k, LeO (topiarylaw12_LexerStands.f k a0) (topiarylaw12_LexerStands.f (k + 1) a0) := by
  intro a0 k
  obtain ⟨ih0, ih1, ih2⟩ := topiarylaw12_LexerStands.mono_l k
  unfold topiarylaw12_LexerStands.f
  repeat' first
      | (with_reducible exact ih0 _ _ _ _ _ _)
      | (with_reducible exact ih1 _ _ _ _ _ _ _ _ _ _ _ _)
      | (with_reducible exact ih2 _ _ _ _ _ _ _ _ _ _ _)
      | (with_reducible exact LeO.refl _)
      | (with_reducible exact LeO.none _)
      | (with_reducible refine LeO.ite ?_ ?_)
      | (with_reducible refine LeO.bind ?_ (fun _ => ?_))
      | exact ih0 _ _ _ _ _ _
      | exact ih1 _ _ _ _ _ _ _ _ _ _ _ _
      | exact ih2 _ _ _ _ _ _ _ _ _ _ _
      | exact LeO.none _
      | refine LeO.ite ?_ ?_
      | refine LeO.bind ?_ (fun _ => ?_)
set_option maxHeartbeats 8000000 in
set_option maxRecDepth 100000 in
theorem topiarylaw12_LexerStands.calls (k : Nat) (a0 : ByteArray) (r : Bool) (w : World) (hG : G w) (h : topiarylaw12_LexerStands.f k a0 = some r) :
    Calls Try.prog 11 #[.string a0] w fun e w' => e = .returned (.bool r) ∧ Below w.heap.size w w' := by
  have hu46 := Try.underlying46
  have HB := Aside0.mk (Below.refl w.heap.size w)
  have H : ((topiarylaw12_awake.f).bind fun t337 => ((topiarylaw12_short.f a0 200).bind fun t338 => ((lexer_Lex.f t338).bind fun bt339 => (if bt339.2 = 0 then (topiarylaw12_LexerStands.l0 k t338 t337 bt339.1 0 false 0) else (if t337 = true then (some ((bt339.1.length : Int) == 0)) else (some false)))))) = some r := h
  clear h
  replace H := Option.bind_eq_some_iff.mp H
  obtain ⟨t337, A20, H⟩ := H
  replace H : ((topiarylaw12_short.f a0 200).bind fun t338 => ((lexer_Lex.f t338).bind fun bt339 => (if bt339.2 = 0 then (topiarylaw12_LexerStands.l0 k t338 t337 bt339.1 0 false 0) else (if t337 = true then (some ((bt339.1.length : Int) == 0)) else (some false))))) = some r := H
  have A2 := Aside0.mk A20
  clear A20
  replace H := Option.bind_eq_some_iff.mp H
  obtain ⟨t338, A30, H⟩ := H
  replace H : ((lexer_Lex.f t338).bind fun bt339 => (if bt339.2 = 0 then (topiarylaw12_LexerStands.l0 k t338 t337 bt339.1 0 false 0) else (if t337 = true then (some ((bt339.1.length : Int) == 0)) else (some false)))) = some r := H
  have A3 := Aside0.mk A30
  clear A30
  replace H := Option.bind_eq_some_iff.mp H
  obtain ⟨⟨t339, t340⟩, A40, H⟩ := H
  replace H : (if t340 = 0 then (topiarylaw12_LexerStands.l0 k t338 t337 t339 0 false 0) else (if t337 = true then (some ((t339.length : Int) == 0)) else (some false))) = some r := H
  have A4 := Aside0.mk A40
  clear A40
  by_cases c5 : t340 = 0
  · rw [if_pos c5] at H
    have c5b0 : (t340 == 0) = true := beq_iff_eq.mpr c5
    have c5b1 : (t340 != 0) = false := bne_eq_false_iff_eq.mpr c5
    clear c5
    have H' := Aside0.mk H
    clear H
    go_enter Try.func11, Try.ntmps11
    go_wp2_with (first | ((with_reducible refine gate_callee (f := 37) rfl ?_); refine goesL_ (some 12) rfl rfl Try.func37 (by kernel_rfl) rfl #[] rfl (by (try simp only [List.map_toArray, List.map_cons, List.map_nil]); first | done | rfl | (simp only [List.length_drop, List.length_take]; rfl)) ?_; (with_reducible refine (topiarylaw12_awake.calls  t337 _ (by first | exact hG | exact G.below hG (by repeat (first | (with_reducible first | exact HB.out | apply below_alloc | apply pw_below_drewN | apply below_drew1) | exact HB.out))) A2.out).mono ?_); rintro e w6 ⟨rfl, hb⟩; refine ⟨_, rfl, ?_⟩; have n0_ := Aside0.mk (below_step (by repeat (first | (with_reducible first | exact HB.out | apply below_alloc | apply pw_below_drewN | apply below_drew1) | exact HB.out)) hb); clear HB; have HB := n0_; clear n0_; (try clear hb); (try clear hb2); (try clear hk); (try clear hi)) | ((with_reducible refine gate_callee (f := 38) rfl ?_); refine goesL_ (some 14) rfl rfl Try.func38 (by kernel_rfl) rfl #[.string a0, .int .i64 200] rfl (by (try simp only [List.map_toArray, List.map_cons, List.map_nil]); first | done | rfl | (simp only [List.length_drop, List.length_take]; rfl)) ?_; (with_reducible refine (topiarylaw12_short.calls a0 200 t338 _ A3.out).mono ?_); rintro e w' ⟨rfl, ⟨nd, rfl⟩⟩; refine ⟨_, rfl, ?_⟩) | ((with_reducible refine gate_callee (f := 39) rfl ?_); refine goesL_ (some 17) rfl rfl Try.func39 (by kernel_rfl) rfl #[.string t338] rfl (by (try simp only [List.map_toArray, List.map_cons, List.map_nil]); first | done | rfl | (simp only [List.length_drop, List.length_take]; rfl)) ?_; (with_reducible refine (lexer_Lex.calls t338 t339 t340 _ (by first | exact hG | exact G.below hG (by repeat (first | (with_reducible first | exact HB.out | apply below_alloc | apply pw_below_drewN | apply below_drew1) | exact HB.out))) A4.out).mono ?_); rintro e w7 ⟨v341, rfl, ho0, hb⟩; refine ⟨_, rfl, ?_⟩; have n0_ := Aside0.mk (Kd.R_lower ho0 (below_size (by repeat (first | (with_reducible first | exact HB.out | apply below_alloc | apply pw_below_drewN | apply below_drew1) | exact HB.out)))); have n1_ := Aside0.mk (below_step (by repeat (first | (with_reducible first | exact HB.out | apply below_alloc | apply pw_below_drewN | apply below_drew1) | exact HB.out)) hb); clear HB; have HO342 := n0_; have HB := n1_; clear n0_ n1_; (try clear hb); (try clear hb2); (try clear hk); (try clear hi); (try clear ho0)))
    go_loopg [6, 7, 8] k (fun kq v6 v7 v8 w' => ∃ (x6_1 : Int) (x7_1 : Bool) (x8_1 : Int), v6 = .int .i64 x6_1 ∧ v7 = .bool x7_1 ∧ v8 = .int .i64 x8_1 ∧ Aside0 (topiarylaw12_LexerStands.l0 kq t338 t337 t339 x6_1 x7_1 x8_1 = some r) ∧ Aside0 (kq ≤ k) ∧ Aside0 (Kd.R k46 46 w' w.heap.size (fun _ => True) v341 t339) ∧ Aside0 (Below w.heap.size w w'))
    case atStart => exact ⟨(0), (false), (0), (by first | rfl | (simp; done) | (simp [*]; done)), (by first | rfl | (simp; done) | (simp [*]; done)), (by first | rfl | (simp; done) | (simp [*]; done)), H', ⟨Nat.le_refl _⟩, ⟨by (with_reducible repeat (first | apply Kd.R_alloc | apply Kd.R_drewN | apply Kd.R_drew)); exact HO342.out⟩, ⟨by repeat (first | (with_reducible first | exact HB.out | apply below_alloc | apply pw_below_drewN | apply below_drew1) | exact HB.out)⟩⟩
    case round =>
      clear H'
      try clear c1
      try clear p2
      try clear c3
      try clear c5
      try clear c5b0
      try clear c5b1
      obtain ⟨x6_1, x7_1, x8_1, rfl, rfl, rfl, HA, HK1, HO_4, HB⟩ := hrel
      cases gk with
      | zero => exact absurd HA.out (by simp [topiarylaw12_LexerStands.l0])
      | succ k1 =>
        have H := HA.out
        clear HA
        simp only [topiarylaw12_LexerStands.l0] at H
        by_cases c8 : x8_1 < (t339.length : Int)
        · rw [if_pos c8] at H
          have c8b0 : decide (x8_1 < (t339.length : Int)) = true := decide_eq_true c8
          clear c8
          by_cases c9 : 0 ≤ x8_1
          · rw [if_pos c9] at H
            have c9b0 : decide (0 ≤ x8_1) = true := decide_eq_true c9
            clear c9
            have HC10 := Aside0.mk H
            clear H
            obtain ⟨Ao11, co11, eo11⟩ := Kd.R_slice HO_4.out
            subst eo11
            have p343 : 0 ≤ (x8_1 : Int) := of_decide_eq_true (by first | (with_reducible assumption) | assumption)
            have q343 : x8_1 < (t339.length : Int) := of_decide_eq_true (by first | (with_reducible assumption) | assumption)
            obtain ⟨ad343, e343, hx343_0, hx343_1, hx343_2, hx343_3, hx343_4⟩ := at_T46 (Kd.R_reads' HO_4.out).2.2 x8_1 p343 q343
            cases e343
            replace p343 := eq_true p343
            replace q343 := eq_true q343
            go_upto_region 12 with (first | ((with_reducible refine gate_dst (N := 9) rfl ?_); (try (refine gate_guard (by rfl) ?_; dsimp only)); refine box_event ?hg (N := 9) ?hd (cs := #[.int .i64 0, .int .i64 0, .int .i64 0, .string (⟨#[]⟩ : ByteArray), .string (⟨#[]⟩ : ByteArray)]) (t := 46) ?hr ?_; (case hd => rfl); (case hg => rfl); (case hr => first | (go_simp; done) | (go_simp; rfl)); intro gb344 hg w12 hbox hb; have n0_ := Aside0.mk (Kd.R_below (Kd.R_elderB (by (with_reducible repeat (first | apply Kd.R_alloc | apply Kd.R_drewN | apply Kd.R_drew)); exact HO_4.out) gb344 (Nat.le_of_eq hg.symm)) hb); have n1_ := Aside0.mk (below_step (by repeat (first | (with_reducible first | exact HB.out | apply below_alloc | apply pw_below_drewN | apply below_drew1) | exact HB.out)) hb); have n2_ := Aside0.mk (hbox); have n3_ := Aside0.mk ((by rw [hg]; exact (below_size (by repeat (first | (with_reducible first | exact HB.out | apply below_alloc | apply pw_below_drewN | apply below_drew1) | exact HB.out))) : w.heap.size ≤ gb344)); have n4_ := Aside0.mk ((by rw [hg]; exact (below_size (by repeat (first | (with_reducible first | exact HB.out | apply below_alloc | apply pw_below_drewN | apply below_drew1) | exact HB.out))) : w.heap.size ≤ gb344)); clear HO_4; clear HB; have HO_4 := n0_; have HB := n1_; have BK344 := n2_; have GW344 := n3_; have GE344 := n4_; clear n0_ n1_ n2_ n3_ n4_; clear hb hbox hg; have hcz13_0 : w12.cell? ⟨gb344, 0, none⟩ = some (.int .i64 0) := (blk_cell BK344.out 0).trans rfl; have hcz13_1 : w12.cell? ⟨gb344, 1, none⟩ = some (.int .i64 0) := (blk_cell BK344.out 1).trans rfl; have hcz13_2 : w12.cell? ⟨gb344, 2, none⟩ = some (.int .i64 0) := (blk_cell BK344.out 2).trans rfl; have hcz13_3 : w12.cell? ⟨gb344, 3, none⟩ = some (.string (⟨#[]⟩ : ByteArray)) := (blk_cell BK344.out 3).trans rfl; have hcz13_4 : w12.cell? ⟨gb344, 4, none⟩ = some (.string (⟨#[]⟩ : ByteArray)) := (blk_cell BK344.out 4).trans rfl; have hfz13_0 := blk_frozen BK344.out 0; have hfz13_1 := blk_frozen BK344.out 1; have hfz13_2 := blk_frozen BK344.out 2; have hfz13_3 := blk_frozen BK344.out 3; have hfz13_4 := blk_frozen BK344.out 4))
            (try simp only [Act.put, List.setIfInBounds_toArray, List.set_cons_zero, List.set_cons_succ])
            go_cut [55] (fun v55 wc => ∃ (kq : Nat) (x55_9 : Bool), v55 = .bool x55_9 ∧ Aside0 (topiarylaw12_LexerStands.j1 kq t338 t337 t339 x6_1 x7_1 x8_1 x55_9 ((rd_T46 t339 x8_1).f0) ((rd_T46 t339 x8_1).f1) ((rd_T46 t339 x8_1).f2) ((rd_T46 t339 x8_1).f3) ((rd_T46 t339 x8_1).f4) = some r) ∧ Aside0 (kq ≤ k1) ∧ Aside0 (Kd.R k46 46 wc w.heap.size (fun k_ => k_ ≠ gb344) (.slice (some ad343) t339.length co11) t339) ∧ Aside0 (wc.heap[gb344]? = some (.cells #[.int .i64 ((rd_T46 t339 x8_1).f0), .int .i64 ((rd_T46 t339 x8_1).f1), .int .i64 ((rd_T46 t339 x8_1).f2), .string ((rd_T46 t339 x8_1).f3), .string ((rd_T46 t339 x8_1).f4)] 46 (0, 0))) ∧ Aside0 (Below w.heap.size w wc))
            case first =>
              have H := HC10.out
              clear HC10
              by_cases c14 : ((rd_T46 t339 x8_1).f1) < x6_1
              · rw [if_pos c14] at H
                have c14b0 : decide (((rd_T46 t339 x8_1).f1) < x6_1) = true := decide_eq_true c14
                clear c14
                (first | rw [c14b0] | (simp only [i64_w, i32_w]; rw [c14b0]) | skip)
                have H' := Aside0.mk H
                clear H
                have hcz15_0 : w12.cell? ⟨gb344, 0, none⟩ = some (.int .i64 0) := (blk_cell BK344.out 0).trans rfl
                have hcz15_1 : w12.cell? ⟨gb344, 1, none⟩ = some (.int .i64 0) := (blk_cell BK344.out 1).trans rfl
                have hcz15_2 : w12.cell? ⟨gb344, 2, none⟩ = some (.int .i64 0) := (blk_cell BK344.out 2).trans rfl
                have hcz15_3 : w12.cell? ⟨gb344, 3, none⟩ = some (.string (⟨#[]⟩ : ByteArray)) := (blk_cell BK344.out 3).trans rfl
                have hcz15_4 : w12.cell? ⟨gb344, 4, none⟩ = some (.string (⟨#[]⟩ : ByteArray)) := (blk_cell BK344.out 4).trans rfl
                have hfz15_0 := blk_frozen BK344.out 0
                have hfz15_1 := blk_frozen BK344.out 1
                have hfz15_2 := blk_frozen BK344.out 2
                have hfz15_3 := blk_frozen BK344.out 3
                have hfz15_4 := blk_frozen BK344.out 4
                go_wp2
                go_meet
                case rel => exact ⟨_, (true), (by first | rfl | (simp; done) | (simp [*]; done)), H', ⟨by have := HK1.out; first | omega | exact Nat.le_refl _⟩, ⟨by (with_reducible repeat (first | apply Kd.R_alloc | apply Kd.R_drewN | apply Kd.R_drew)); exact Kd.R_mono (Kd.R_far (p := ⟨gb344, 4, none⟩) (Kd.R_far (p := ⟨gb344, 3, none⟩) (Kd.R_far (p := ⟨gb344, 2, none⟩) (Kd.R_far (p := ⟨gb344, 1, none⟩) (Kd.R_far (p := ⟨gb344, 0, none⟩) (Kd.R_mono HO_4.out (fun k_ hk => (⟨hk, hk.2⟩ : _ ∧ k_ ≠ gb344))) (fun _ hk => hk.2) (.int .i64 ((rd_T46 t339 x8_1).f0))) (fun _ hk => hk.2) (.int .i64 ((rd_T46 t339 x8_1).f1))) (fun _ hk => hk.2) (.int .i64 ((rd_T46 t339 x8_1).f2))) (fun _ hk => hk.2) (.string ((rd_T46 t339 x8_1).f3))) (fun _ hk => hk.2) (.string ((rd_T46 t339 x8_1).f4))) (fun _ hk => hk.1.2)⟩, ⟨by (with_reducible repeat (first | refine blk_drewN ?_ _ | refine blk_drew ?_ | refine blk_alloc ?_ _)); refine blk_put (cs := #[.int .i64 ((rd_T46 t339 x8_1).f0), .int .i64 ((rd_T46 t339 x8_1).f1), .int .i64 ((rd_T46 t339 x8_1).f2), .string ((rd_T46 t339 x8_1).f3), .string (⟨#[]⟩ : ByteArray)]) ?_ 4 _ rfl; (with_reducible repeat (first | refine blk_drewN ?_ _ | refine blk_drew ?_ | refine blk_alloc ?_ _)); refine blk_put (cs := #[.int .i64 ((rd_T46 t339 x8_1).f0), .int .i64 ((rd_T46 t339 x8_1).f1), .int .i64 ((rd_T46 t339 x8_1).f2), .string (⟨#[]⟩ : ByteArray), .string (⟨#[]⟩ : ByteArray)]) ?_ 3 _ rfl; (with_reducible repeat (first | refine blk_drewN ?_ _ | refine blk_drew ?_ | refine blk_alloc ?_ _)); refine blk_put (cs := #[.int .i64 ((rd_T46 t339 x8_1).f0), .int .i64 ((rd_T46 t339 x8_1).f1), .int .i64 0, .string (⟨#[]⟩ : ByteArray), .string (⟨#[]⟩ : ByteArray)]) ?_ 2 _ rfl; (with_reducible repeat (first | refine blk_drewN ?_ _ | refine blk_drew ?_ | refine blk_alloc ?_ _)); refine blk_put (cs := #[.int .i64 ((rd_T46 t339 x8_1).f0), .int .i64 0, .int .i64 0, .string (⟨#[]⟩ : ByteArray), .string (⟨#[]⟩ : ByteArray)]) ?_ 1 _ rfl; (with_reducible repeat (first | refine blk_drewN ?_ _ | refine blk_drew ?_ | refine blk_alloc ?_ _)); refine blk_put (cs := #[.int .i64 0, .int .i64 0, .int .i64 0, .string (⟨#[]⟩ : ByteArray), .string (⟨#[]⟩ : ByteArray)]) ?_ 0 _ rfl; (with_reducible repeat (first | refine blk_drewN ?_ _ | refine blk_drew ?_ | refine blk_alloc ?_ _)); exact BK344.out⟩, ⟨by repeat (first | (with_reducible first | exact HB.out | apply below_alloc | apply pw_below_drewN | apply below_drew1 | refine below_set ?_ GE344.out) | exact HB.out)⟩⟩
              · rw [if_neg c14] at H
                have c14b0 : decide (((rd_T46 t339 x8_1).f1) < x6_1) = false := decide_eq_false c14
                clear c14
                (first | rw [c14b0] | (simp only [i64_w, i32_w]; rw [c14b0]) | skip)
                by_cases c16 : ((rd_T46 t339 x8_1).f2) ≤ ((rd_T46 t339 x8_1).f1)
                · rw [if_pos c16] at H
                  have c16b0 : decide (((rd_T46 t339 x8_1).f2) ≤ ((rd_T46 t339 x8_1).f1)) = true := decide_eq_true c16
                  clear c16
                  have H' := Aside0.mk H
                  clear H
                  have hcz17_0 : w12.cell? ⟨gb344, 0, none⟩ = some (.int .i64 0) := (blk_cell BK344.out 0).trans rfl
                  have hcz17_1 : w12.cell? ⟨gb344, 1, none⟩ = some (.int .i64 0) := (blk_cell BK344.out 1).trans rfl
                  have hcz17_2 : w12.cell? ⟨gb344, 2, none⟩ = some (.int .i64 0) := (blk_cell BK344.out 2).trans rfl
                  have hcz17_3 : w12.cell? ⟨gb344, 3, none⟩ = some (.string (⟨#[]⟩ : ByteArray)) := (blk_cell BK344.out 3).trans rfl
                  have hcz17_4 : w12.cell? ⟨gb344, 4, none⟩ = some (.string (⟨#[]⟩ : ByteArray)) := (blk_cell BK344.out 4).trans rfl
                  have hfz17_0 := blk_frozen BK344.out 0
                  have hfz17_1 := blk_frozen BK344.out 1
                  have hfz17_2 := blk_frozen BK344.out 2
                  have hfz17_3 := blk_frozen BK344.out 3
                  have hfz17_4 := blk_frozen BK344.out 4
                  go_wp2
                  go_meet
                  case rel => exact ⟨_, (true), (by first | rfl | (simp; done) | (simp [*]; done)), H', ⟨by have := HK1.out; first | omega | exact Nat.le_refl _⟩, ⟨by (with_reducible repeat (first | apply Kd.R_alloc | apply Kd.R_drewN | apply Kd.R_drew)); exact Kd.R_mono (Kd.R_far (p := ⟨gb344, 4, none⟩) (Kd.R_far (p := ⟨gb344, 3, none⟩) (Kd.R_far (p := ⟨gb344, 2, none⟩) (Kd.R_far (p := ⟨gb344, 1, none⟩) (Kd.R_far (p := ⟨gb344, 0, none⟩) (Kd.R_mono HO_4.out (fun k_ hk => (⟨hk, hk.2⟩ : _ ∧ k_ ≠ gb344))) (fun _ hk => hk.2) (.int .i64 ((rd_T46 t339 x8_1).f0))) (fun _ hk => hk.2) (.int .i64 ((rd_T46 t339 x8_1).f1))) (fun _ hk => hk.2) (.int .i64 ((rd_T46 t339 x8_1).f2))) (fun _ hk => hk.2) (.string ((rd_T46 t339 x8_1).f3))) (fun _ hk => hk.2) (.string ((rd_T46 t339 x8_1).f4))) (fun _ hk => hk.1.2)⟩, ⟨by (with_reducible repeat (first | refine blk_drewN ?_ _ | refine blk_drew ?_ | refine blk_alloc ?_ _)); refine blk_put (cs := #[.int .i64 ((rd_T46 t339 x8_1).f0), .int .i64 ((rd_T46 t339 x8_1).f1), .int .i64 ((rd_T46 t339 x8_1).f2), .string ((rd_T46 t339 x8_1).f3), .string (⟨#[]⟩ : ByteArray)]) ?_ 4 _ rfl; (with_reducible repeat (first | refine blk_drewN ?_ _ | refine blk_drew ?_ | refine blk_alloc ?_ _)); refine blk_put (cs := #[.int .i64 ((rd_T46 t339 x8_1).f0), .int .i64 ((rd_T46 t339 x8_1).f1), .int .i64 ((rd_T46 t339 x8_1).f2), .string (⟨#[]⟩ : ByteArray), .string (⟨#[]⟩ : ByteArray)]) ?_ 3 _ rfl; (with_reducible repeat (first | refine blk_drewN ?_ _ | refine blk_drew ?_ | refine blk_alloc ?_ _)); refine blk_put (cs := #[.int .i64 ((rd_T46 t339 x8_1).f0), .int .i64 ((rd_T46 t339 x8_1).f1), .int .i64 0, .string (⟨#[]⟩ : ByteArray), .string (⟨#[]⟩ : ByteArray)]) ?_ 2 _ rfl; (with_reducible repeat (first | refine blk_drewN ?_ _ | refine blk_drew ?_ | refine blk_alloc ?_ _)); refine blk_put (cs := #[.int .i64 ((rd_T46 t339 x8_1).f0), .int .i64 0, .int .i64 0, .string (⟨#[]⟩ : ByteArray), .string (⟨#[]⟩ : ByteArray)]) ?_ 1 _ rfl; (with_reducible repeat (first | refine blk_drewN ?_ _ | refine blk_drew ?_ | refine blk_alloc ?_ _)); refine blk_put (cs := #[.int .i64 0, .int .i64 0, .int .i64 0, .string (⟨#[]⟩ : ByteArray), .string (⟨#[]⟩ : ByteArray)]) ?_ 0 _ rfl; (with_reducible repeat (first | refine blk_drewN ?_ _ | refine blk_drew ?_ | refine blk_alloc ?_ _)); exact BK344.out⟩, ⟨by repeat (first | (with_reducible first | exact HB.out | apply below_alloc | apply pw_below_drewN | apply below_drew1 | refine below_set ?_ GE344.out) | exact HB.out)⟩⟩
                · rw [if_neg c16] at H
                  have c16b0 : decide (((rd_T46 t339 x8_1).f2) ≤ ((rd_T46 t339 x8_1).f1)) = false := decide_eq_false c16
                  clear c16
                  have H' := Aside0.mk H
                  clear H
                  have hcz18_0 : w12.cell? ⟨gb344, 0, none⟩ = some (.int .i64 0) := (blk_cell BK344.out 0).trans rfl
                  have hcz18_1 : w12.cell? ⟨gb344, 1, none⟩ = some (.int .i64 0) := (blk_cell BK344.out 1).trans rfl
                  have hcz18_2 : w12.cell? ⟨gb344, 2, none⟩ = some (.int .i64 0) := (blk_cell BK344.out 2).trans rfl
                  have hcz18_3 : w12.cell? ⟨gb344, 3, none⟩ = some (.string (⟨#[]⟩ : ByteArray)) := (blk_cell BK344.out 3).trans rfl
                  have hcz18_4 : w12.cell? ⟨gb344, 4, none⟩ = some (.string (⟨#[]⟩ : ByteArray)) := (blk_cell BK344.out 4).trans rfl
                  have hfz18_0 := blk_frozen BK344.out 0
                  have hfz18_1 := blk_frozen BK344.out 1
                  have hfz18_2 := blk_frozen BK344.out 2
                  have hfz18_3 := blk_frozen BK344.out 3
                  have hfz18_4 := blk_frozen BK344.out 4
                  go_wp2
                  go_meet
                  case rel => exact ⟨_, (decide (((rd_T46 t339 x8_1).f2) > (t338.size : Int))), (by first | rfl | (simp; done) | (simp [*]; done)), H', ⟨by have := HK1.out; first | omega | exact Nat.le_refl _⟩, ⟨by (with_reducible repeat (first | apply Kd.R_alloc | apply Kd.R_drewN | apply Kd.R_drew)); exact Kd.R_mono (Kd.R_far (p := ⟨gb344, 4, none⟩) (Kd.R_far (p := ⟨gb344, 3, none⟩) (Kd.R_far (p := ⟨gb344, 2, none⟩) (Kd.R_far (p := ⟨gb344, 1, none⟩) (Kd.R_far (p := ⟨gb344, 0, none⟩) (Kd.R_mono HO_4.out (fun k_ hk => (⟨hk, hk.2⟩ : _ ∧ k_ ≠ gb344))) (fun _ hk => hk.2) (.int .i64 ((rd_T46 t339 x8_1).f0))) (fun _ hk => hk.2) (.int .i64 ((rd_T46 t339 x8_1).f1))) (fun _ hk => hk.2) (.int .i64 ((rd_T46 t339 x8_1).f2))) (fun _ hk => hk.2) (.string ((rd_T46 t339 x8_1).f3))) (fun _ hk => hk.2) (.string ((rd_T46 t339 x8_1).f4))) (fun _ hk => hk.1.2)⟩, ⟨by (with_reducible repeat (first | refine blk_drewN ?_ _ | refine blk_drew ?_ | refine blk_alloc ?_ _)); refine blk_put (cs := #[.int .i64 ((rd_T46 t339 x8_1).f0), .int .i64 ((rd_T46 t339 x8_1).f1), .int .i64 ((rd_T46 t339 x8_1).f2), .string ((rd_T46 t339 x8_1).f3), .string (⟨#[]⟩ : ByteArray)]) ?_ 4 _ rfl; (with_reducible repeat (first | refine blk_drewN ?_ _ | refine blk_drew ?_ | refine blk_alloc ?_ _)); refine blk_put (cs := #[.int .i64 ((rd_T46 t339 x8_1).f0), .int .i64 ((rd_T46 t339 x8_1).f1), .int .i64 ((rd_T46 t339 x8_1).f2), .string (⟨#[]⟩ : ByteArray), .string (⟨#[]⟩ : ByteArray)]) ?_ 3 _ rfl; (with_reducible repeat (first | refine blk_drewN ?_ _ | refine blk_drew ?_ | refine blk_alloc ?_ _)); refine blk_put (cs := #[.int .i64 ((rd_T46 t339 x8_1).f0), .int .i64 ((rd_T46 t339 x8_1).f1), .int .i64 0, .string (⟨#[]⟩ : ByteArray), .string (⟨#[]⟩ : ByteArray)]) ?_ 2 _ rfl; (with_reducible repeat (first | refine blk_drewN ?_ _ | refine blk_drew ?_ | refine blk_alloc ?_ _)); refine blk_put (cs := #[.int .i64 ((rd_T46 t339 x8_1).f0), .int .i64 0, .int .i64 0, .string (⟨#[]⟩ : ByteArray), .string (⟨#[]⟩ : ByteArray)]) ?_ 1 _ rfl; (with_reducible repeat (first | refine blk_drewN ?_ _ | refine blk_drew ?_ | refine blk_alloc ?_ _)); refine blk_put (cs := #[.int .i64 0, .int .i64 0, .int .i64 0, .string (⟨#[]⟩ : ByteArray), .string (⟨#[]⟩ : ByteArray)]) ?_ 0 _ rfl; (with_reducible repeat (first | refine blk_drewN ?_ _ | refine blk_drew ?_ | refine blk_alloc ?_ _)); exact BK344.out⟩, ⟨by repeat (first | (with_reducible first | exact HB.out | apply below_alloc | apply pw_below_drewN | apply below_drew1 | refine below_set ?_ GE344.out) | exact HB.out)⟩⟩
            case rest =>
              clear HC10
              try clear c1
              try clear p2
              try clear c3
              try clear p3
              try clear q3
              try clear hx3
              try clear c5
              try clear c5b0
              try clear c5b1
              try clear c8
              try clear c8b0
              try clear c9
              try clear c9b0
              try clear c11
              try clear c14
              try clear c14b0
              try clear c16
              try clear c16b0
              try clear hcz13_0
              try clear hcz13_1
              try clear hcz13_2
              try clear hcz13_3
              try clear hcz13_4
              try clear hcz15_0
              try clear hcz15_1
              try clear hcz15_2
              try clear hcz15_3
              try clear hcz15_4
              try clear hcz17_0
              try clear hcz17_1
              try clear hcz17_2
              try clear hcz17_3
              try clear hcz17_4
              try clear hcz18_0
              try clear hcz18_1
              try clear hcz18_2
              try clear hcz18_3
              try clear hcz18_4
              try clear hfz13_0
              try clear hfz13_1
              try clear hfz13_2
              try clear hfz13_3
              try clear hfz13_4
              try clear hfz15_0
              try clear hfz15_1
              try clear hfz15_2
              try clear hfz15_3
              try clear hfz15_4
              try clear hfz17_0
              try clear hfz17_1
              try clear hfz17_2
              try clear hfz17_3
              try clear hfz17_4
              try clear hfz18_0
              try clear hfz18_1
              try clear hfz18_2
              try clear hfz18_3
              try clear hfz18_4
              try clear hx343_0
              try clear hx343_1
              try clear hx343_2
              try clear hx343_3
              try clear hx343_4
              try clear p2
              try clear p343
              try clear q343
              obtain ⟨kq, x55_9, rfl, HA, HJ9, HO_4, BK344, HB⟩ := hcut
              cases kq with
              | zero => exact absurd HA.out (by simp [topiarylaw12_LexerStands.j1])
              | succ kj9 =>
                have H := HA.out
                clear HA
                simp only [topiarylaw12_LexerStands.j1] at H
                by_cases c19 : x55_9 = true
                · subst c19
                  have H1 : (some false) = some r := by rw [if_pos rfl] at H; exact H
                  clear H
                  have H := H1
                  clear H1
                  obtain rfl := Option.some.inj H
                  go_wp2
                  go_ret
                  exact ⟨by first | rfl | (simp [errW_none, errW_some] <;> rfl) | (simp [*, errW_none, errW_some] <;> rfl), by repeat (first | (with_reducible first | exact HB.out | apply below_alloc | apply pw_below_drewN | apply below_drew1 | refine below_set ?_ GE344.out) | exact HB.out)⟩
                · replace c19 := Bool.eq_false_iff.mpr c19
                  subst c19
                  have H1 : (topiarylaw12_LexerStands.l1 kj9 t338 t337 t339 x7_1 x8_1 x6_1 ((rd_T46 t339 x8_1).f0) ((rd_T46 t339 x8_1).f1) ((rd_T46 t339 x8_1).f2) ((rd_T46 t339 x8_1).f3) ((rd_T46 t339 x8_1).f4)) = some r := by rw [if_neg (show ¬ (false = true) by decide)] at H; exact H
                  clear H
                  have H := H1
                  clear H1
                  have H' := Aside0.mk H
                  clear H
                  go_wp2
                  go_loopg [10] kj9 (fun kq v10 w' => ∃ (x10_3 : Int), v10 = .int .i64 x10_3 ∧ Aside0 (topiarylaw12_LexerStands.l1 kq t338 t337 t339 x7_1 x8_1 x10_3 ((rd_T46 t339 x8_1).f0) ((rd_T46 t339 x8_1).f1) ((rd_T46 t339 x8_1).f2) ((rd_T46 t339 x8_1).f3) ((rd_T46 t339 x8_1).f4) = some r) ∧ Aside0 (kq ≤ kj9) ∧ Aside0 (Kd.R k46 46 w' w.heap.size (fun k_ => k_ ≠ gb344) (.slice (some ad343) t339.length co11) t339) ∧ Aside0 (w'.heap[gb344]? = some (.cells #[.int .i64 ((rd_T46 t339 x8_1).f0), .int .i64 ((rd_T46 t339 x8_1).f1), .int .i64 ((rd_T46 t339 x8_1).f2), .string ((rd_T46 t339 x8_1).f3), .string ((rd_T46 t339 x8_1).f4)] 46 (0, 0))) ∧ Aside0 (Below w.heap.size w w'))
                  case atStart => exact ⟨(x6_1), (by first | rfl | (simp; done) | (simp [*]; done)), H', ⟨Nat.le_refl _⟩, ⟨by (with_reducible repeat (first | apply Kd.R_alloc | apply Kd.R_drewN | apply Kd.R_drew)); exact HO_4.out⟩, ⟨by (with_reducible repeat (first | refine blk_drewN ?_ _ | refine blk_drew ?_ | refine blk_alloc ?_ _)); exact BK344.out⟩, ⟨by repeat (first | (with_reducible first | exact HB.out | apply below_alloc | apply pw_below_drewN | apply below_drew1 | refine below_set ?_ GE344.out) | exact HB.out)⟩⟩
                  case round =>
                    clear H'
                    try clear c1
                    try clear p2
                    try clear c3
                    try clear p3
                    try clear q3
                    try clear hx3
                    try clear c5
                    try clear c5b0
                    try clear c5b1
                    try clear c8
                    try clear c8b0
                    try clear c9
                    try clear c9b0
                    try clear c11
                    try clear c14
                    try clear c14b0
                    try clear c16
                    try clear c16b0
                    try clear c19
                    try clear hcz13_0
                    try clear hcz13_1
                    try clear hcz13_2
                    try clear hcz13_3
                    try clear hcz13_4
                    try clear hcz15_0
                    try clear hcz15_1
                    try clear hcz15_2
                    try clear hcz15_3
                    try clear hcz15_4
                    try clear hcz17_0
                    try clear hcz17_1
                    try clear hcz17_2
                    try clear hcz17_3
                    try clear hcz17_4
                    try clear hcz18_0
                    try clear hcz18_1
                    try clear hcz18_2
                    try clear hcz18_3
                    try clear hcz18_4
                    try clear hfz13_0
                    try clear hfz13_1
                    try clear hfz13_2
                    try clear hfz13_3
                    try clear hfz13_4
                    try clear hfz15_0
                    try clear hfz15_1
                    try clear hfz15_2
                    try clear hfz15_3
                    try clear hfz15_4
                    try clear hfz17_0
                    try clear hfz17_1
                    try clear hfz17_2
                    try clear hfz17_3
                    try clear hfz17_4
                    try clear hfz18_0
                    try clear hfz18_1
                    try clear hfz18_2
                    try clear hfz18_3
                    try clear hfz18_4
                    try clear hx343_0
                    try clear hx343_1
                    try clear hx343_2
                    try clear hx343_3
                    try clear hx343_4
                    try clear p2
                    try clear p3
                    try clear p343
                    try clear q3
                    try clear q343
                    obtain ⟨x10_3, rfl, HA, HK3, HO_4, BK344, HB⟩ := hrel
                    cases gk with
                    | zero => exact absurd HA.out (by simp [topiarylaw12_LexerStands.l1])
                    | succ k3 =>
                      have H := HA.out
                      clear HA
                      simp only [topiarylaw12_LexerStands.l1] at H
                      by_cases c20 : x10_3 < ((rd_T46 t339 x8_1).f1)
                      · rw [if_pos c20] at H
                        have c20b0 : decide (x10_3 < ((rd_T46 t339 x8_1).f1)) = true := decide_eq_true c20
                        clear c20
                        by_cases c21 : 0 ≤ x10_3
                        · rw [if_pos c21] at H
                          have c21b0 : decide (0 ≤ x10_3) = true := decide_eq_true c21
                          clear c21
                          by_cases c22 : x10_3 < (t338.size : Int)
                          · rw [if_pos c22] at H
                            have c22b0 : decide (x10_3 < (t338.size : Int)) = true := decide_eq_true c22
                            clear c22
                            replace H := Option.bind_eq_some_iff.mp H
                            obtain ⟨t345, A240, H⟩ := H
                            replace H : (if t345 = true then (if x7_1 = true then (topiarylaw12_LexerStands.l1 k3 t338 t337 t339 x7_1 x8_1 (wrap64 (x10_3 + 1)) ((rd_T46 t339 x8_1).f0) ((rd_T46 t339 x8_1).f1) ((rd_T46 t339 x8_1).f2) ((rd_T46 t339 x8_1).f3) ((rd_T46 t339 x8_1).f4)) else (some false)) else (some false)) = some r := H
                            have A24 := Aside0.mk A240
                            clear A240
                            by_cases c25 : t345 = true
                            · subst c25
                              have H1 : (if x7_1 = true then (topiarylaw12_LexerStands.l1 k3 t338 t337 t339 x7_1 x8_1 (wrap64 (x10_3 + 1)) ((rd_T46 t339 x8_1).f0) ((rd_T46 t339 x8_1).f1) ((rd_T46 t339 x8_1).f2) ((rd_T46 t339 x8_1).f3) ((rd_T46 t339 x8_1).f4)) else (some false)) = some r := by rw [if_pos rfl] at H; exact H
                              clear H
                              have H := H1
                              clear H1
                              by_cases c26 : x7_1 = true
                              · subst c26
                                have H1 : (topiarylaw12_LexerStands.l1 k3 t338 t337 t339 true x8_1 (wrap64 (x10_3 + 1)) ((rd_T46 t339 x8_1).f0) ((rd_T46 t339 x8_1).f1) ((rd_T46 t339 x8_1).f2) ((rd_T46 t339 x8_1).f3) ((rd_T46 t339 x8_1).f4)) = some r := by rw [if_pos rfl] at H; exact H
                                clear H
                                have H := H1
                                clear H1
                                have H' := Aside0.mk H
                                clear H
                                have hcz27_0 : wr.cell? ⟨gb344, 0, none⟩ = some (.int .i64 ((rd_T46 t339 x8_1).f0)) := (blk_cell BK344.out 0).trans rfl
                                have hcz27_1 : wr.cell? ⟨gb344, 1, none⟩ = some (.int .i64 ((rd_T46 t339 x8_1).f1)) := (blk_cell BK344.out 1).trans rfl
                                have hcz27_2 : wr.cell? ⟨gb344, 2, none⟩ = some (.int .i64 ((rd_T46 t339 x8_1).f2)) := (blk_cell BK344.out 2).trans rfl
                                have hcz27_3 : wr.cell? ⟨gb344, 3, none⟩ = some (.string ((rd_T46 t339 x8_1).f3)) := (blk_cell BK344.out 3).trans rfl
                                have hcz27_4 : wr.cell? ⟨gb344, 4, none⟩ = some (.string ((rd_T46 t339 x8_1).f4)) := (blk_cell BK344.out 4).trans rfl
                                have hfz27_0 := blk_frozen BK344.out 0
                                have hfz27_1 := blk_frozen BK344.out 1
                                have hfz27_2 := blk_frozen BK344.out 2
                                have hfz27_3 := blk_frozen BK344.out 3
                                have hfz27_4 := blk_frozen BK344.out 4
                                have p23 : 0 ≤ (x10_3 : Int) := of_decide_eq_true (by first | (with_reducible assumption) | assumption)
                                have q23 : x10_3 < (t338.size : Int) := of_decide_eq_true (by first | (with_reducible assumption) | assumption)
                                have hx23 := bt_at t338 x10_3
                                replace p23 := eq_true p23
                                replace q23 := eq_true q23
                                go_wp2_with (first | ((with_reducible refine gate_callee (f := 35) rfl ?_); refine goesL_ (some 66) rfl rfl Try.func35 (by kernel_rfl) rfl #[.int .u8 (bt t338 x10_3)] rfl (by (try simp only [List.map_toArray, List.map_cons, List.map_nil]); first | done | rfl | (simp only [List.length_drop, List.length_take]; rfl)) ?_; (with_reducible refine (topiaryref11_Space.calls (bt t338 x10_3) true _ A24.out).mono ?_); rintro e w' ⟨rfl, ⟨nd, rfl⟩⟩; refine ⟨_, rfl, ?_⟩))
                                go_roundg k3
                                case measure => have := HK1.out; have := HJ9.out; have := HK3.out; omega
                                case rel => exact ⟨(wrap64 (x10_3 + 1)), (by first | rfl | (simp; done) | (simp [*]; done)), H', ⟨by have := HK1.out; have := HJ9.out; have := HK3.out; omega⟩, ⟨by (with_reducible repeat (first | apply Kd.R_alloc | apply Kd.R_drewN | apply Kd.R_drew)); exact HO_4.out⟩, ⟨by (with_reducible repeat (first | refine blk_drewN ?_ _ | refine blk_drew ?_ | refine blk_alloc ?_ _)); exact BK344.out⟩, ⟨by repeat (first | (with_reducible first | exact HB.out | apply below_alloc | apply pw_below_drewN | apply below_drew1 | refine below_set ?_ GE344.out) | exact HB.out)⟩⟩
                              · replace c26 := Bool.eq_false_iff.mpr c26
                                subst c26
                                have H1 : (some false) = some r := by rw [if_neg (show ¬ (false = true) by decide)] at H; exact H
                                clear H
                                have H := H1
                                clear H1
                                obtain rfl := Option.some.inj H
                                have hcz28_0 : wr.cell? ⟨gb344, 0, none⟩ = some (.int .i64 ((rd_T46 t339 x8_1).f0)) := (blk_cell BK344.out 0).trans rfl
                                have hcz28_1 : wr.cell? ⟨gb344, 1, none⟩ = some (.int .i64 ((rd_T46 t339 x8_1).f1)) := (blk_cell BK344.out 1).trans rfl
                                have hcz28_2 : wr.cell? ⟨gb344, 2, none⟩ = some (.int .i64 ((rd_T46 t339 x8_1).f2)) := (blk_cell BK344.out 2).trans rfl
                                have hcz28_3 : wr.cell? ⟨gb344, 3, none⟩ = some (.string ((rd_T46 t339 x8_1).f3)) := (blk_cell BK344.out 3).trans rfl
                                have hcz28_4 : wr.cell? ⟨gb344, 4, none⟩ = some (.string ((rd_T46 t339 x8_1).f4)) := (blk_cell BK344.out 4).trans rfl
                                have hfz28_0 := blk_frozen BK344.out 0
                                have hfz28_1 := blk_frozen BK344.out 1
                                have hfz28_2 := blk_frozen BK344.out 2
                                have hfz28_3 := blk_frozen BK344.out 3
                                have hfz28_4 := blk_frozen BK344.out 4
                                have p23 : 0 ≤ (x10_3 : Int) := of_decide_eq_true (by first | (with_reducible assumption) | assumption)
                                have q23 : x10_3 < (t338.size : Int) := of_decide_eq_true (by first | (with_reducible assumption) | assumption)
                                have hx23 := bt_at t338 x10_3
                                replace p23 := eq_true p23
                                replace q23 := eq_true q23
                                go_wp2_with (first | ((with_reducible refine gate_callee (f := 35) rfl ?_); refine goesL_ (some 66) rfl rfl Try.func35 (by kernel_rfl) rfl #[.int .u8 (bt t338 x10_3)] rfl (by (try simp only [List.map_toArray, List.map_cons, List.map_nil]); first | done | rfl | (simp only [List.length_drop, List.length_take]; rfl)) ?_; (with_reducible refine (topiaryref11_Space.calls (bt t338 x10_3) true _ A24.out).mono ?_); rintro e w' ⟨rfl, ⟨nd, rfl⟩⟩; refine ⟨_, rfl, ?_⟩))
                                go_ret
                                exact ⟨by first | rfl | (simp [errW_none, errW_some] <;> rfl) | (simp [*, errW_none, errW_some] <;> rfl), by repeat (first | (with_reducible first | exact HB.out | apply below_alloc | apply pw_below_drewN | apply below_drew1 | refine below_set ?_ GE344.out) | exact HB.out)⟩
                            · replace c25 := Bool.eq_false_iff.mpr c25
                              subst c25
                              have H1 : (some false) = some r := by rw [if_neg (show ¬ (false = true) by decide)] at H; exact H
                              clear H
                              have H := H1
                              clear H1
                              obtain rfl := Option.some.inj H
                              have hcz29_0 : wr.cell? ⟨gb344, 0, none⟩ = some (.int .i64 ((rd_T46 t339 x8_1).f0)) := (blk_cell BK344.out 0).trans rfl
                              have hcz29_1 : wr.cell? ⟨gb344, 1, none⟩ = some (.int .i64 ((rd_T46 t339 x8_1).f1)) := (blk_cell BK344.out 1).trans rfl
                              have hcz29_2 : wr.cell? ⟨gb344, 2, none⟩ = some (.int .i64 ((rd_T46 t339 x8_1).f2)) := (blk_cell BK344.out 2).trans rfl
                              have hcz29_3 : wr.cell? ⟨gb344, 3, none⟩ = some (.string ((rd_T46 t339 x8_1).f3)) := (blk_cell BK344.out 3).trans rfl
                              have hcz29_4 : wr.cell? ⟨gb344, 4, none⟩ = some (.string ((rd_T46 t339 x8_1).f4)) := (blk_cell BK344.out 4).trans rfl
                              have hfz29_0 := blk_frozen BK344.out 0
                              have hfz29_1 := blk_frozen BK344.out 1
                              have hfz29_2 := blk_frozen BK344.out 2
                              have hfz29_3 := blk_frozen BK344.out 3
                              have hfz29_4 := blk_frozen BK344.out 4
                              have p23 : 0 ≤ (x10_3 : Int) := of_decide_eq_true (by first | (with_reducible assumption) | assumption)
                              have q23 : x10_3 < (t338.size : Int) := of_decide_eq_true (by first | (with_reducible assumption) | assumption)
                              have hx23 := bt_at t338 x10_3
                              replace p23 := eq_true p23
                              replace q23 := eq_true q23
                              go_wp2_with (first | ((with_reducible refine gate_callee (f := 35) rfl ?_); refine goesL_ (some 66) rfl rfl Try.func35 (by kernel_rfl) rfl #[.int .u8 (bt t338 x10_3)] rfl (by (try simp only [List.map_toArray, List.map_cons, List.map_nil]); first | done | rfl | (simp only [List.length_drop, List.length_take]; rfl)) ?_; (with_reducible refine (topiaryref11_Space.calls (bt t338 x10_3) false _ A24.out).mono ?_); rintro e w' ⟨rfl, ⟨nd, rfl⟩⟩; refine ⟨_, rfl, ?_⟩))
                              go_ret
                              exact ⟨by first | rfl | (simp [errW_none, errW_some] <;> rfl) | (simp [*, errW_none, errW_some] <;> rfl), by repeat (first | (with_reducible first | exact HB.out | apply below_alloc | apply pw_below_drewN | apply below_drew1 | refine below_set ?_ GE344.out) | exact HB.out)⟩
                          · rw [if_neg c22] at H
                            exact absurd H (by simp)
                        · rw [if_neg c21] at H
                          exact absurd H (by simp)
                      · rw [if_neg c20] at H
                        have c20b0 : decide (x10_3 < ((rd_T46 t339 x8_1).f1)) = false := decide_eq_false c20
                        clear c20
                        by_cases c30 : ((rd_T46 t339 x8_1).f0) = 2
                        · rw [if_pos c30] at H
                          have c30b0 : (((rd_T46 t339 x8_1).f0) == 2) = true := beq_iff_eq.mpr c30
                          have c30b1 : (((rd_T46 t339 x8_1).f0) != 2) = false := bne_eq_false_iff_eq.mpr c30
                          clear c30
                          by_cases c31 : (x7_1 != true) = true
                          · rw [if_pos c31] at H
                            have c31b0 : (x7_1 != true) = true := c31
                            (try (have c31b1 : decide (x7_1 = true) = false := by simpa using c31))
                            (try (have c31b2 : (x7_1 == true) = false := by simpa using c31))
                            (try (have c31b3 : ¬ (x7_1 = true) := by simpa using c31))
                            clear c31
                            obtain rfl := Option.some.inj H
                            have hcz32_0 : wr.cell? ⟨gb344, 0, none⟩ = some (.int .i64 ((rd_T46 t339 x8_1).f0)) := (blk_cell BK344.out 0).trans rfl
                            have hcz32_1 : wr.cell? ⟨gb344, 1, none⟩ = some (.int .i64 ((rd_T46 t339 x8_1).f1)) := (blk_cell BK344.out 1).trans rfl
                            have hcz32_2 : wr.cell? ⟨gb344, 2, none⟩ = some (.int .i64 ((rd_T46 t339 x8_1).f2)) := (blk_cell BK344.out 2).trans rfl
                            have hcz32_3 : wr.cell? ⟨gb344, 3, none⟩ = some (.string ((rd_T46 t339 x8_1).f3)) := (blk_cell BK344.out 3).trans rfl
                            have hcz32_4 : wr.cell? ⟨gb344, 4, none⟩ = some (.string ((rd_T46 t339 x8_1).f4)) := (blk_cell BK344.out 4).trans rfl
                            have hfz32_0 := blk_frozen BK344.out 0
                            have hfz32_1 := blk_frozen BK344.out 1
                            have hfz32_2 := blk_frozen BK344.out 2
                            have hfz32_3 := blk_frozen BK344.out 3
                            have hfz32_4 := blk_frozen BK344.out 4
                            go_wp2
                            go_ret
                            exact ⟨by first | rfl | (simp [errW_none, errW_some] <;> rfl) | (simp [*, errW_none, errW_some] <;> rfl), by repeat (first | (with_reducible first | exact HB.out | apply below_alloc | apply pw_below_drewN | apply below_drew1 | refine below_set ?_ GE344.out) | exact HB.out)⟩
                          · rw [if_neg c31] at H
                            have c31b0 : (x7_1 != true) = false := by simpa using c31
                            (try (have c31b1 : decide (x7_1 = true) = true := by simpa using c31))
                            (try (have c31b2 : (x7_1 == true) = true := by simpa using c31))
                            clear c31
                            by_cases c33 : ((rd_T46 t339 x8_1).f0) = 1
                            · rw [if_pos c33] at H
                              have c33b0 : (((rd_T46 t339 x8_1).f0) == 1) = true := beq_iff_eq.mpr c33
                              have c33b1 : (((rd_T46 t339 x8_1).f0) != 1) = false := bne_eq_false_iff_eq.mpr c33
                              clear c33
                              have H' := Aside0.mk H
                              clear H
                              have hcz34_0 : wr.cell? ⟨gb344, 0, none⟩ = some (.int .i64 ((rd_T46 t339 x8_1).f0)) := (blk_cell BK344.out 0).trans rfl
                              have hcz34_1 : wr.cell? ⟨gb344, 1, none⟩ = some (.int .i64 ((rd_T46 t339 x8_1).f1)) := (blk_cell BK344.out 1).trans rfl
                              have hcz34_2 : wr.cell? ⟨gb344, 2, none⟩ = some (.int .i64 ((rd_T46 t339 x8_1).f2)) := (blk_cell BK344.out 2).trans rfl
                              have hcz34_3 : wr.cell? ⟨gb344, 3, none⟩ = some (.string ((rd_T46 t339 x8_1).f3)) := (blk_cell BK344.out 3).trans rfl
                              have hcz34_4 : wr.cell? ⟨gb344, 4, none⟩ = some (.string ((rd_T46 t339 x8_1).f4)) := (blk_cell BK344.out 4).trans rfl
                              have hfz34_0 := blk_frozen BK344.out 0
                              have hfz34_1 := blk_frozen BK344.out 1
                              have hfz34_2 := blk_frozen BK344.out 2
                              have hfz34_3 := blk_frozen BK344.out 3
                              have hfz34_4 := blk_frozen BK344.out 4
                              go_wp2
                              go_roundg k3
                              case measure => have := HK1.out; have := HJ9.out; have := HK3.out; omega
                              case rel => exact ⟨(((rd_T46 t339 x8_1).f2)), (true), (wrap64 (x8_1 + 1)), (by first | rfl | (simp; done) | (simp [*]; done)), (by first | rfl | (simp; done) | (simp [*]; done)), (by first | rfl | (simp; done) | (simp [*]; done)), H', ⟨by have := HK1.out; have := HJ9.out; have := HK3.out; omega⟩, ⟨by (with_reducible repeat (first | apply Kd.R_alloc | apply Kd.R_drewN | apply Kd.R_drew)); exact Kd.R_mono HO_4.out (fun _ hk => trivial)⟩, ⟨by repeat (first | (with_reducible first | exact HB.out | apply below_alloc | apply pw_below_drewN | apply below_drew1 | refine below_set ?_ GE344.out) | exact HB.out)⟩⟩
                            · rw [if_neg c33] at H
                              have c33b0 : (((rd_T46 t339 x8_1).f0) == 1) = false := beq_eq_false_iff_ne.mpr c33
                              have c33b1 : (((rd_T46 t339 x8_1).f0) != 1) = true := bne_iff_ne.mpr c33
                              have H' := Aside0.mk H
                              clear H
                              have hcz35_0 : wr.cell? ⟨gb344, 0, none⟩ = some (.int .i64 ((rd_T46 t339 x8_1).f0)) := (blk_cell BK344.out 0).trans rfl
                              have hcz35_1 : wr.cell? ⟨gb344, 1, none⟩ = some (.int .i64 ((rd_T46 t339 x8_1).f1)) := (blk_cell BK344.out 1).trans rfl
                              have hcz35_2 : wr.cell? ⟨gb344, 2, none⟩ = some (.int .i64 ((rd_T46 t339 x8_1).f2)) := (blk_cell BK344.out 2).trans rfl
                              have hcz35_3 : wr.cell? ⟨gb344, 3, none⟩ = some (.string ((rd_T46 t339 x8_1).f3)) := (blk_cell BK344.out 3).trans rfl
                              have hcz35_4 : wr.cell? ⟨gb344, 4, none⟩ = some (.string ((rd_T46 t339 x8_1).f4)) := (blk_cell BK344.out 4).trans rfl
                              have hfz35_0 := blk_frozen BK344.out 0
                              have hfz35_1 := blk_frozen BK344.out 1
                              have hfz35_2 := blk_frozen BK344.out 2
                              have hfz35_3 := blk_frozen BK344.out 3
                              have hfz35_4 := blk_frozen BK344.out 4
                              go_wp2
                              go_roundg k3
                              case measure => have := HK1.out; have := HJ9.out; have := HK3.out; omega
                              case rel => exact ⟨(((rd_T46 t339 x8_1).f2)), ((((rd_T46 t339 x8_1).f0) == 2)), (wrap64 (x8_1 + 1)), (by first | rfl | (simp; done) | (simp [*]; done)), (by first | rfl | (simp; done) | (simp [*]; done)), (by first | rfl | (simp; done) | (simp [*]; done)), H', ⟨by have := HK1.out; have := HJ9.out; have := HK3.out; omega⟩, ⟨by (with_reducible repeat (first | apply Kd.R_alloc | apply Kd.R_drewN | apply Kd.R_drew)); exact Kd.R_mono HO_4.out (fun _ hk => trivial)⟩, ⟨by repeat (first | (with_reducible first | exact HB.out | apply below_alloc | apply pw_below_drewN | apply below_drew1 | refine below_set ?_ GE344.out) | exact HB.out)⟩⟩
                        · rw [if_neg c30] at H
                          have c30b0 : (((rd_T46 t339 x8_1).f0) == 2) = false := beq_eq_false_iff_ne.mpr c30
                          have c30b1 : (((rd_T46 t339 x8_1).f0) != 2) = true := bne_iff_ne.mpr c30
                          by_cases c36 : ((rd_T46 t339 x8_1).f0) = 3
                          · rw [if_pos c36] at H
                            have c36b0 : (((rd_T46 t339 x8_1).f0) == 3) = true := beq_iff_eq.mpr c36
                            have c36b1 : (((rd_T46 t339 x8_1).f0) != 3) = false := bne_eq_false_iff_eq.mpr c36
                            clear c36
                            by_cases c37 : (x7_1 != true) = true
                            · rw [if_pos c37] at H
                              have c37b0 : (x7_1 != true) = true := c37
                              (try (have c37b1 : decide (x7_1 = true) = false := by simpa using c37))
                              (try (have c37b2 : (x7_1 == true) = false := by simpa using c37))
                              (try (have c37b3 : ¬ (x7_1 = true) := by simpa using c37))
                              clear c37
                              obtain rfl := Option.some.inj H
                              have hcz38_0 : wr.cell? ⟨gb344, 0, none⟩ = some (.int .i64 ((rd_T46 t339 x8_1).f0)) := (blk_cell BK344.out 0).trans rfl
                              have hcz38_1 : wr.cell? ⟨gb344, 1, none⟩ = some (.int .i64 ((rd_T46 t339 x8_1).f1)) := (blk_cell BK344.out 1).trans rfl
                              have hcz38_2 : wr.cell? ⟨gb344, 2, none⟩ = some (.int .i64 ((rd_T46 t339 x8_1).f2)) := (blk_cell BK344.out 2).trans rfl
                              have hcz38_3 : wr.cell? ⟨gb344, 3, none⟩ = some (.string ((rd_T46 t339 x8_1).f3)) := (blk_cell BK344.out 3).trans rfl
                              have hcz38_4 : wr.cell? ⟨gb344, 4, none⟩ = some (.string ((rd_T46 t339 x8_1).f4)) := (blk_cell BK344.out 4).trans rfl
                              have hfz38_0 := blk_frozen BK344.out 0
                              have hfz38_1 := blk_frozen BK344.out 1
                              have hfz38_2 := blk_frozen BK344.out 2
                              have hfz38_3 := blk_frozen BK344.out 3
                              have hfz38_4 := blk_frozen BK344.out 4
                              go_wp2
                              go_ret
                              exact ⟨by first | rfl | (simp [errW_none, errW_some] <;> rfl) | (simp [*, errW_none, errW_some] <;> rfl), by repeat (first | (with_reducible first | exact HB.out | apply below_alloc | apply pw_below_drewN | apply below_drew1 | refine below_set ?_ GE344.out) | exact HB.out)⟩
                            · rw [if_neg c37] at H
                              have c37b0 : (x7_1 != true) = false := by simpa using c37
                              (try (have c37b1 : decide (x7_1 = true) = true := by simpa using c37))
                              (try (have c37b2 : (x7_1 == true) = true := by simpa using c37))
                              clear c37
                              by_cases c39 : ((rd_T46 t339 x8_1).f0) = 1
                              · rw [if_pos c39] at H
                                have c39b0 : (((rd_T46 t339 x8_1).f0) == 1) = true := beq_iff_eq.mpr c39
                                have c39b1 : (((rd_T46 t339 x8_1).f0) != 1) = false := bne_eq_false_iff_eq.mpr c39
                                clear c39
                                have H' := Aside0.mk H
                                clear H
                                have hcz40_0 : wr.cell? ⟨gb344, 0, none⟩ = some (.int .i64 ((rd_T46 t339 x8_1).f0)) := (blk_cell BK344.out 0).trans rfl
                                have hcz40_1 : wr.cell? ⟨gb344, 1, none⟩ = some (.int .i64 ((rd_T46 t339 x8_1).f1)) := (blk_cell BK344.out 1).trans rfl
                                have hcz40_2 : wr.cell? ⟨gb344, 2, none⟩ = some (.int .i64 ((rd_T46 t339 x8_1).f2)) := (blk_cell BK344.out 2).trans rfl
                                have hcz40_3 : wr.cell? ⟨gb344, 3, none⟩ = some (.string ((rd_T46 t339 x8_1).f3)) := (blk_cell BK344.out 3).trans rfl
                                have hcz40_4 : wr.cell? ⟨gb344, 4, none⟩ = some (.string ((rd_T46 t339 x8_1).f4)) := (blk_cell BK344.out 4).trans rfl
                                have hfz40_0 := blk_frozen BK344.out 0
                                have hfz40_1 := blk_frozen BK344.out 1
                                have hfz40_2 := blk_frozen BK344.out 2
                                have hfz40_3 := blk_frozen BK344.out 3
                                have hfz40_4 := blk_frozen BK344.out 4
                                go_wp2
                                go_roundg k3
                                case measure => have := HK1.out; have := HJ9.out; have := HK3.out; omega
                                case rel => exact ⟨(((rd_T46 t339 x8_1).f2)), (true), (wrap64 (x8_1 + 1)), (by first | rfl | (simp; done) | (simp [*]; done)), (by first | rfl | (simp; done) | (simp [*]; done)), (by first | rfl | (simp; done) | (simp [*]; done)), H', ⟨by have := HK1.out; have := HJ9.out; have := HK3.out; omega⟩, ⟨by (with_reducible repeat (first | apply Kd.R_alloc | apply Kd.R_drewN | apply Kd.R_drew)); exact Kd.R_mono HO_4.out (fun _ hk => trivial)⟩, ⟨by repeat (first | (with_reducible first | exact HB.out | apply below_alloc | apply pw_below_drewN | apply below_drew1 | refine below_set ?_ GE344.out) | exact HB.out)⟩⟩
                              · rw [if_neg c39] at H
                                have c39b0 : (((rd_T46 t339 x8_1).f0) == 1) = false := beq_eq_false_iff_ne.mpr c39
                                have c39b1 : (((rd_T46 t339 x8_1).f0) != 1) = true := bne_iff_ne.mpr c39
                                have H' := Aside0.mk H
                                clear H
                                have hcz41_0 : wr.cell? ⟨gb344, 0, none⟩ = some (.int .i64 ((rd_T46 t339 x8_1).f0)) := (blk_cell BK344.out 0).trans rfl
                                have hcz41_1 : wr.cell? ⟨gb344, 1, none⟩ = some (.int .i64 ((rd_T46 t339 x8_1).f1)) := (blk_cell BK344.out 1).trans rfl
                                have hcz41_2 : wr.cell? ⟨gb344, 2, none⟩ = some (.int .i64 ((rd_T46 t339 x8_1).f2)) := (blk_cell BK344.out 2).trans rfl
                                have hcz41_3 : wr.cell? ⟨gb344, 3, none⟩ = some (.string ((rd_T46 t339 x8_1).f3)) := (blk_cell BK344.out 3).trans rfl
                                have hcz41_4 : wr.cell? ⟨gb344, 4, none⟩ = some (.string ((rd_T46 t339 x8_1).f4)) := (blk_cell BK344.out 4).trans rfl
                                have hfz41_0 := blk_frozen BK344.out 0
                                have hfz41_1 := blk_frozen BK344.out 1
                                have hfz41_2 := blk_frozen BK344.out 2
                                have hfz41_3 := blk_frozen BK344.out 3
                                have hfz41_4 := blk_frozen BK344.out 4
                                go_wp2
                                go_roundg k3
                                case measure => have := HK1.out; have := HJ9.out; have := HK3.out; omega
                                case rel => exact ⟨(((rd_T46 t339 x8_1).f2)), ((((rd_T46 t339 x8_1).f0) == 2)), (wrap64 (x8_1 + 1)), (by first | rfl | (simp; done) | (simp [*]; done)), (by first | rfl | (simp; done) | (simp [*]; done)), (by first | rfl | (simp; done) | (simp [*]; done)), H', ⟨by have := HK1.out; have := HJ9.out; have := HK3.out; omega⟩, ⟨by (with_reducible repeat (first | apply Kd.R_alloc | apply Kd.R_drewN | apply Kd.R_drew)); exact Kd.R_mono HO_4.out (fun _ hk => trivial)⟩, ⟨by repeat (first | (with_reducible first | exact HB.out | apply below_alloc | apply pw_below_drewN | apply below_drew1 | refine below_set ?_ GE344.out) | exact HB.out)⟩⟩
                          · rw [if_neg c36] at H
                            have c36b0 : (((rd_T46 t339 x8_1).f0) == 3) = false := beq_eq_false_iff_ne.mpr c36
                            have c36b1 : (((rd_T46 t339 x8_1).f0) != 3) = true := bne_iff_ne.mpr c36
                            by_cases c42 : (x7_1 != (((rd_T46 t339 x8_1).f0) == 4)) = true
                            · rw [if_pos c42] at H
                              have c42b0 : (x7_1 != (((rd_T46 t339 x8_1).f0) == 4)) = true := c42
                              (try (have c42b1 : decide (x7_1 = (((rd_T46 t339 x8_1).f0) == 4)) = false := by simpa using c42))
                              (try (have c42b2 : (x7_1 == (((rd_T46 t339 x8_1).f0) == 4)) = false := by simpa using c42))
                              (try (have c42b3 : ¬ (x7_1 = (((rd_T46 t339 x8_1).f0) == 4)) := by simpa using c42))
                              clear c42
                              obtain rfl := Option.some.inj H
                              have hcz43_0 : wr.cell? ⟨gb344, 0, none⟩ = some (.int .i64 ((rd_T46 t339 x8_1).f0)) := (blk_cell BK344.out 0).trans rfl
                              have hcz43_1 : wr.cell? ⟨gb344, 1, none⟩ = some (.int .i64 ((rd_T46 t339 x8_1).f1)) := (blk_cell BK344.out 1).trans rfl
                              have hcz43_2 : wr.cell? ⟨gb344, 2, none⟩ = some (.int .i64 ((rd_T46 t339 x8_1).f2)) := (blk_cell BK344.out 2).trans rfl
                              have hcz43_3 : wr.cell? ⟨gb344, 3, none⟩ = some (.string ((rd_T46 t339 x8_1).f3)) := (blk_cell BK344.out 3).trans rfl
                              have hcz43_4 : wr.cell? ⟨gb344, 4, none⟩ = some (.string ((rd_T46 t339 x8_1).f4)) := (blk_cell BK344.out 4).trans rfl
                              have hfz43_0 := blk_frozen BK344.out 0
                              have hfz43_1 := blk_frozen BK344.out 1
                              have hfz43_2 := blk_frozen BK344.out 2
                              have hfz43_3 := blk_frozen BK344.out 3
                              have hfz43_4 := blk_frozen BK344.out 4
                              go_wp2
                              go_ret
                              exact ⟨by first | rfl | (simp [errW_none, errW_some] <;> rfl) | (simp [*, errW_none, errW_some] <;> rfl), by repeat (first | (with_reducible first | exact HB.out | apply below_alloc | apply pw_below_drewN | apply below_drew1 | refine below_set ?_ GE344.out) | exact HB.out)⟩
                            · rw [if_neg c42] at H
                              have c42b0 : (x7_1 != (((rd_T46 t339 x8_1).f0) == 4)) = false := by simpa using c42
                              (try (have c42b1 : decide (x7_1 = (((rd_T46 t339 x8_1).f0) == 4)) = true := by simpa using c42))
                              (try (have c42b2 : (x7_1 == (((rd_T46 t339 x8_1).f0) == 4)) = true := by simpa using c42))
                              clear c42
                              by_cases c44 : ((rd_T46 t339 x8_1).f0) = 1
                              · rw [if_pos c44] at H
                                have c44b0 : (((rd_T46 t339 x8_1).f0) == 1) = true := beq_iff_eq.mpr c44
                                have c44b1 : (((rd_T46 t339 x8_1).f0) != 1) = false := bne_eq_false_iff_eq.mpr c44
                                clear c44
                                have H' := Aside0.mk H
                                clear H
                                have hcz45_0 : wr.cell? ⟨gb344, 0, none⟩ = some (.int .i64 ((rd_T46 t339 x8_1).f0)) := (blk_cell BK344.out 0).trans rfl
                                have hcz45_1 : wr.cell? ⟨gb344, 1, none⟩ = some (.int .i64 ((rd_T46 t339 x8_1).f1)) := (blk_cell BK344.out 1).trans rfl
                                have hcz45_2 : wr.cell? ⟨gb344, 2, none⟩ = some (.int .i64 ((rd_T46 t339 x8_1).f2)) := (blk_cell BK344.out 2).trans rfl
                                have hcz45_3 : wr.cell? ⟨gb344, 3, none⟩ = some (.string ((rd_T46 t339 x8_1).f3)) := (blk_cell BK344.out 3).trans rfl
                                have hcz45_4 : wr.cell? ⟨gb344, 4, none⟩ = some (.string ((rd_T46 t339 x8_1).f4)) := (blk_cell BK344.out 4).trans rfl
                                have hfz45_0 := blk_frozen BK344.out 0
                                have hfz45_1 := blk_frozen BK344.out 1
                                have hfz45_2 := blk_frozen BK344.out 2
                                have hfz45_3 := blk_frozen BK344.out 3
                                have hfz45_4 := blk_frozen BK344.out 4
                                go_wp2
                                go_roundg k3
                                case measure => have := HK1.out; have := HJ9.out; have := HK3.out; omega
                                case rel => exact ⟨(((rd_T46 t339 x8_1).f2)), (true), (wrap64 (x8_1 + 1)), (by first | rfl | (simp; done) | (simp [*]; done)), (by first | rfl | (simp; done) | (simp [*]; done)), (by first | rfl | (simp; done) | (simp [*]; done)), H', ⟨by have := HK1.out; have := HJ9.out; have := HK3.out; omega⟩, ⟨by (with_reducible repeat (first | apply Kd.R_alloc | apply Kd.R_drewN | apply Kd.R_drew)); exact Kd.R_mono HO_4.out (fun _ hk => trivial)⟩, ⟨by repeat (first | (with_reducible first | exact HB.out | apply below_alloc | apply pw_below_drewN | apply below_drew1 | refine below_set ?_ GE344.out) | exact HB.out)⟩⟩
                              · rw [if_neg c44] at H
                                have c44b0 : (((rd_T46 t339 x8_1).f0) == 1) = false := beq_eq_false_iff_ne.mpr c44
                                have c44b1 : (((rd_T46 t339 x8_1).f0) != 1) = true := bne_iff_ne.mpr c44
                                have H' := Aside0.mk H
                                clear H
                                have hcz46_0 : wr.cell? ⟨gb344, 0, none⟩ = some (.int .i64 ((rd_T46 t339 x8_1).f0)) := (blk_cell BK344.out 0).trans rfl
                                have hcz46_1 : wr.cell? ⟨gb344, 1, none⟩ = some (.int .i64 ((rd_T46 t339 x8_1).f1)) := (blk_cell BK344.out 1).trans rfl
                                have hcz46_2 : wr.cell? ⟨gb344, 2, none⟩ = some (.int .i64 ((rd_T46 t339 x8_1).f2)) := (blk_cell BK344.out 2).trans rfl
                                have hcz46_3 : wr.cell? ⟨gb344, 3, none⟩ = some (.string ((rd_T46 t339 x8_1).f3)) := (blk_cell BK344.out 3).trans rfl
                                have hcz46_4 : wr.cell? ⟨gb344, 4, none⟩ = some (.string ((rd_T46 t339 x8_1).f4)) := (blk_cell BK344.out 4).trans rfl
                                have hfz46_0 := blk_frozen BK344.out 0
                                have hfz46_1 := blk_frozen BK344.out 1
                                have hfz46_2 := blk_frozen BK344.out 2
                                have hfz46_3 := blk_frozen BK344.out 3
                                have hfz46_4 := blk_frozen BK344.out 4
                                go_wp2
                                go_roundg k3
                                case measure => have := HK1.out; have := HJ9.out; have := HK3.out; omega
                                case rel => exact ⟨(((rd_T46 t339 x8_1).f2)), ((((rd_T46 t339 x8_1).f0) == 2)), (wrap64 (x8_1 + 1)), (by first | rfl | (simp; done) | (simp [*]; done)), (by first | rfl | (simp; done) | (simp [*]; done)), (by first | rfl | (simp; done) | (simp [*]; done)), H', ⟨by have := HK1.out; have := HJ9.out; have := HK3.out; omega⟩, ⟨by (with_reducible repeat (first | apply Kd.R_alloc | apply Kd.R_drewN | apply Kd.R_drew)); exact Kd.R_mono HO_4.out (fun _ hk => trivial)⟩, ⟨by repeat (first | (with_reducible first | exact HB.out | apply below_alloc | apply pw_below_drewN | apply below_drew1 | refine below_set ?_ GE344.out) | exact HB.out)⟩⟩
          · rw [if_neg c9] at H
            exact absurd H (by simp)
        · rw [if_neg c8] at H
          have c8b0 : decide (x8_1 < (t339.length : Int)) = false := decide_eq_false c8
          clear c8
          by_cases c47 : t337 = true
          · subst c47
            have H1 : (if x6_1 = (t338.size : Int) then (some (!x7_1)) else (some false)) = some r := by rw [if_pos rfl] at H; exact H
            clear H
            have H := H1
            clear H1
            by_cases c48 : x6_1 = (t338.size : Int)
            · rw [if_pos c48] at H
              have c48b0 : (x6_1 == (t338.size : Int)) = true := beq_iff_eq.mpr c48
              have c48b1 : (x6_1 != (t338.size : Int)) = false := bne_eq_false_iff_eq.mpr c48
              clear c48
              obtain rfl := Option.some.inj H
              obtain ⟨Ao49, co49, eo49⟩ := Kd.R_slice HO_4.out
              subst eo49
              go_wp2
              go_ret
              exact ⟨by first | rfl | (simp [errW_none, errW_some] <;> rfl) | (simp [*, errW_none, errW_some] <;> rfl), by repeat (first | (with_reducible first | exact HB.out | apply below_alloc | apply pw_below_drewN | apply below_drew1) | exact HB.out)⟩
            · rw [if_neg c48] at H
              have c48b0 : (x6_1 == (t338.size : Int)) = false := beq_eq_false_iff_ne.mpr c48
              have c48b1 : (x6_1 != (t338.size : Int)) = true := bne_iff_ne.mpr c48
              obtain rfl := Option.some.inj H
              obtain ⟨Ao50, co50, eo50⟩ := Kd.R_slice HO_4.out
              subst eo50
              go_wp2
              go_ret
              exact ⟨by first | rfl | (simp [errW_none, errW_some] <;> rfl) | (simp [*, errW_none, errW_some] <;> rfl), by repeat (first | (with_reducible first | exact HB.out | apply below_alloc | apply pw_below_drewN | apply below_drew1) | exact HB.out)⟩
          · replace c47 := Bool.eq_false_iff.mpr c47
            subst c47
            have H1 : (some false) = some r := by rw [if_neg (show ¬ (false = true) by decide)] at H; exact H
            clear H
            have H := H1
            clear H1
            obtain rfl := Option.some.inj H
            obtain ⟨Ao51, co51, eo51⟩ := Kd.R_slice HO_4.out
            subst eo51
            go_wp2
            go_ret
            exact ⟨by first | rfl | (simp [errW_none, errW_some] <;> rfl) | (simp [*, errW_none, errW_some] <;> rfl), by repeat (first | (with_reducible first | exact HB.out | apply below_alloc | apply pw_below_drewN | apply below_drew1) | exact HB.out)⟩
  · rw [if_neg c5] at H
    have c5b0 : (t340 == 0) = false := beq_eq_false_iff_ne.mpr c5
    have c5b1 : (t340 != 0) = true := bne_iff_ne.mpr c5
    by_cases c52 : t337 = true
    · subst c52
      have H1 : (some ((t339.length : Int) == 0)) = some r := by rw [if_pos rfl] at H; exact H
      clear H
      have H := H1
      clear H1
      obtain rfl := Option.some.inj H
      go_enter Try.func11, Try.ntmps11
      go_wp2_with (first | ((with_reducible refine gate_callee (f := 37) rfl ?_); refine goesL_ (some 12) rfl rfl Try.func37 (by kernel_rfl) rfl #[] rfl (by (try simp only [List.map_toArray, List.map_cons, List.map_nil]); first | done | rfl | (simp only [List.length_drop, List.length_take]; rfl)) ?_; (with_reducible refine (topiarylaw12_awake.calls  true _ (by first | exact hG | exact G.below hG (by repeat (first | (with_reducible first | exact HB.out | apply below_alloc | apply pw_below_drewN | apply below_drew1) | exact HB.out))) A2.out).mono ?_); rintro e w53 ⟨rfl, hb⟩; refine ⟨_, rfl, ?_⟩; have n0_ := Aside0.mk (below_step (by repeat (first | (with_reducible first | exact HB.out | apply below_alloc | apply pw_below_drewN | apply below_drew1) | exact HB.out)) hb); clear HB; have HB := n0_; clear n0_; (try clear hb); (try clear hb2); (try clear hk); (try clear hi)) | ((with_reducible refine gate_callee (f := 38) rfl ?_); refine goesL_ (some 14) rfl rfl Try.func38 (by kernel_rfl) rfl #[.string a0, .int .i64 200] rfl (by (try simp only [List.map_toArray, List.map_cons, List.map_nil]); first | done | rfl | (simp only [List.length_drop, List.length_take]; rfl)) ?_; (with_reducible refine (topiarylaw12_short.calls a0 200 t338 _ A3.out).mono ?_); rintro e w' ⟨rfl, ⟨nd, rfl⟩⟩; refine ⟨_, rfl, ?_⟩) | ((with_reducible refine gate_callee (f := 39) rfl ?_); refine goesL_ (some 17) rfl rfl Try.func39 (by kernel_rfl) rfl #[.string t338] rfl (by (try simp only [List.map_toArray, List.map_cons, List.map_nil]); first | done | rfl | (simp only [List.length_drop, List.length_take]; rfl)) ?_; (with_reducible refine (lexer_Lex.calls t338 t339 t340 _ (by first | exact hG | exact G.below hG (by repeat (first | (with_reducible first | exact HB.out | apply below_alloc | apply pw_below_drewN | apply below_drew1) | exact HB.out))) A4.out).mono ?_); rintro e w54 ⟨v341, rfl, ho0, hb⟩; refine ⟨_, rfl, ?_⟩; have n0_ := Aside0.mk (Kd.R_lower ho0 (below_size (by repeat (first | (with_reducible first | exact HB.out | apply below_alloc | apply pw_below_drewN | apply below_drew1) | exact HB.out)))); have n1_ := Aside0.mk (below_step (by repeat (first | (with_reducible first | exact HB.out | apply below_alloc | apply pw_below_drewN | apply below_drew1) | exact HB.out)) hb); clear HB; have HO342 := n0_; have HB := n1_; clear n0_ n1_; (try clear hb); (try clear hb2); (try clear hk); (try clear hi); (try clear ho0); obtain ⟨Ao55, co55, eo55⟩ := Kd.R_slice HO342.out; subst eo55))
      go_ret
      exact ⟨by first | rfl | (simp [errW_none, errW_some] <;> rfl) | (simp [*, errW_none, errW_some] <;> rfl), by repeat (first | (with_reducible first | exact HB.out | apply below_alloc | apply pw_below_drewN | apply below_drew1) | exact HB.out)⟩
    · replace c52 := Bool.eq_false_iff.mpr c52
      subst c52
      have H1 : (some false) = some r := by rw [if_neg (show ¬ (false = true) by decide)] at H; exact H
      clear H
      have H := H1
      clear H1
      obtain rfl := Option.some.inj H
      go_enter Try.func11, Try.ntmps11
      go_wp2_with (first | ((with_reducible refine gate_callee (f := 37) rfl ?_); refine goesL_ (some 12) rfl rfl Try.func37 (by kernel_rfl) rfl #[] rfl (by (try simp only [List.map_toArray, List.map_cons, List.map_nil]); first | done | rfl | (simp only [List.length_drop, List.length_take]; rfl)) ?_; (with_reducible refine (topiarylaw12_awake.calls  false _ (by first | exact hG | exact G.below hG (by repeat (first | (with_reducible first | exact HB.out | apply below_alloc | apply pw_below_drewN | apply below_drew1) | exact HB.out))) A2.out).mono ?_); rintro e w56 ⟨rfl, hb⟩; refine ⟨_, rfl, ?_⟩; have n0_ := Aside0.mk (below_step (by repeat (first | (with_reducible first | exact HB.out | apply below_alloc | apply pw_below_drewN | apply below_drew1) | exact HB.out)) hb); clear HB; have HB := n0_; clear n0_; (try clear hb); (try clear hb2); (try clear hk); (try clear hi)) | ((with_reducible refine gate_callee (f := 38) rfl ?_); refine goesL_ (some 14) rfl rfl Try.func38 (by kernel_rfl) rfl #[.string a0, .int .i64 200] rfl (by (try simp only [List.map_toArray, List.map_cons, List.map_nil]); first | done | rfl | (simp only [List.length_drop, List.length_take]; rfl)) ?_; (with_reducible refine (topiarylaw12_short.calls a0 200 t338 _ A3.out).mono ?_); rintro e w' ⟨rfl, ⟨nd, rfl⟩⟩; refine ⟨_, rfl, ?_⟩) | ((with_reducible refine gate_callee (f := 39) rfl ?_); refine goesL_ (some 17) rfl rfl Try.func39 (by kernel_rfl) rfl #[.string t338] rfl (by (try simp only [List.map_toArray, List.map_cons, List.map_nil]); first | done | rfl | (simp only [List.length_drop, List.length_take]; rfl)) ?_; (with_reducible refine (lexer_Lex.calls t338 t339 t340 _ (by first | exact hG | exact G.below hG (by repeat (first | (with_reducible first | exact HB.out | apply below_alloc | apply pw_below_drewN | apply below_drew1) | exact HB.out))) A4.out).mono ?_); rintro e w57 ⟨v341, rfl, ho0, hb⟩; refine ⟨_, rfl, ?_⟩; have n0_ := Aside0.mk (Kd.R_lower ho0 (below_size (by repeat (first | (with_reducible first | exact HB.out | apply below_alloc | apply pw_below_drewN | apply below_drew1) | exact HB.out)))); have n1_ := Aside0.mk (below_step (by repeat (first | (with_reducible first | exact HB.out | apply below_alloc | apply pw_below_drewN | apply below_drew1) | exact HB.out)) hb); clear HB; have HO342 := n0_; have HB := n1_; clear n0_ n1_; (try clear hb); (try clear hb2); (try clear hk); (try clear hi); (try clear ho0)))
      go_ret
      exact ⟨by first | rfl | (simp [errW_none, errW_some] <;> rfl) | (simp [*, errW_none, errW_some] <;> rfl), by repeat (first | (with_reducible first | exact HB.out | apply below_alloc | apply pw_below_drewN | apply below_drew1) | exact HB.out)⟩
def topiarylaw12_LexerStands.Pure : Prop := ∀ (a0 : ByteArray), a0.size ≤ 140737488351232 → ∃ k, topiarylaw12_LexerStands.f k a0 = some true
theorem topiarylaw12_LexerStands.walk (P : topiarylaw12_LexerStands.Pure) (a0 : ByteArray) (w : World) (hG : G w) (w0 : a0.size ≤ 140737488351232) :
    Calls Try.prog 11 #[.string a0] w fun e w' => e = .returned (.bool true) ∧ Below w.heap.size w w' := by
  obtain ⟨k, h⟩ := P a0 w0
  refine (topiarylaw12_LexerStands.calls k a0 true w hG h).mono ?_
  rintro e w' ⟨rfl, hd⟩
  exact ⟨rfl, hd⟩
end Go.Proofs.Ytekkaoenabjeiaa.Q
end
section
set_option linter.unusedVariables false
set_option linter.unusedSimpArgs false
namespace Go.Proofs.Ytekkaoenabjeiaa.P12
open Go Go.RowKit Go.Proofs.Ytekkaoenabjeiaa Go.Proofs.Ytekkaoenabjeiaa.Q Go.Proofs.YtekkaoenabjeiaaW.PrintWords Go.Proofs.Ytekkaoenabjeiaa.X
theorem awake12 : topiarylaw12_awake.f = some true := by kernel_rfl
theorem short12 (s : ByteArray) (n : Nat) : ∃ t : ByteArray, topiarylaw12_short.f s n = some t ∧ t.size ≤ n ∧ t.data.toList = s.data.toList.take n := by
  unfold topiarylaw12_short.f
  by_cases h : (s.size : Int) > n
  · rw [if_pos h, if_pos (by omega), if_pos (by omega)]
    refine ⟨_, rfl, ?_, ?_⟩
    · rw [Lib.size_eq, Lib.extract_data, List.length_take, List.length_drop]; omega
    · rw [Lib.extract_data]; simp
  · rw [if_neg h]
    exact ⟨s, rfl, by omega, by rw [List.take_of_length_le (by rw [← Lib.size_eq]; omega)]⟩
end Go.Proofs.Ytekkaoenabjeiaa.P12
end
section
set_option linter.unusedVariables false
set_option linter.unusedSimpArgs false
namespace Go.Proofs.Ytekkaoenabjeiaa.Pure
open Go Go.RowKit Go.Proofs.Ytekkaoenabjeiaa Go.Proofs.Ytekkaoenabjeiaa.Q Go.Proofs.YtekkaoenabjeiaaW.PrintWords Go.Proofs.Ytekkaoenabjeiaa.X Go.Proofs.Ytekkaoenabjeiaa.P11 Go.Proofs.Ytekkaoenabjeiaa.P12
theorem swr (n : Int) (h0 : -9223372036854775808 ≤ n) (h1 : n ≤ 9223372036854775807) : wrap64 n = n := by unfold wrap64; omega
theorem getD_at (d : ByteArray) (n : Nat) (h : n < d.size) : d[n] = d.data.toList.getD n 0 := by
  rw [List.getD_eq_getElem?_getD, List.getElem?_eq_getElem (by rw [← Lib.size_eq]; exact h)]; rfl
theorem stands_l1 (d : ByteArray) (hs : d.size ≤ 65536) (l : List Tok) (x : Bool) (i : Nat) (hi : i < l.length) (hl : l.length ≤ 65536) (K F T : Int) (nm vl : ByteArray) (C : Nat) (hF : F ≤ (d.size : Int)) (hx : x = inTag K)
    (hgo : ∀ k, C ≤ k → topiarylaw12_LexerStands.l0 k d true l T (opens K) ((i + 1 : Nat) : Int) = some true) (m : Nat) :
    ∀ (n : Nat) (k : Nat), F - n ≤ m → (∀ j : Nat, n ≤ j → (j : Int) < F → spaceB (d.data.toList.getD j 0) = true ∧ x = true) → C + m + 1 ≤ k → topiarylaw12_LexerStands.l1 k d true l x i n K F T nm vl = some true := by
  induction m with
  | zero =>
    intro n k hm hsp hk
    obtain ⟨k, rfl⟩ : ∃ j, k = j + 1 := ⟨k - 1, by omega⟩
    have hgo' := hgo k (by omega)
    rw [show ((i + 1 : Nat) : Int) = (i : Int) + 1 from by omega] at hgo'
    rw [topiarylaw12_LexerStands.l1, if_neg (by omega), swr ((i : Int) + 1) (by omega) (by omega)]
    unfold opens at hgo'
    by_cases c2 : K = 2
    · subst c2
      rw [if_pos rfl, if_neg (by rw [hx]; decide), if_neg (by decide)]
      exact hgo'
    by_cases c3 : K = 3
    · subst c3
      rw [if_neg (by decide), if_pos rfl, if_neg (by rw [hx]; decide), if_neg (by decide)]
      exact hgo'
    rw [if_neg c2, if_neg c3]
    have h4 : ¬ ((x != (K == 4)) = true) := by
      rw [hx]; unfold inTag
      rw [show (K == 2) = false from by simpa using c2, show (K == 3) = false from by simpa using c3]
      simp
    rw [if_neg h4]
    by_cases c1 : K = 1
    · subst c1
      rw [if_pos rfl]
      exact hgo'
    · rw [if_neg c1]
      rw [show (K == 1) = false from by simpa using c1, Bool.false_or] at hgo'
      exact hgo'
  | succ m ih =>
    intro n k hm hsp hk
    by_cases hn : (n : Int) < F
    · obtain ⟨k, rfl⟩ : ∃ j, k = j + 1 := ⟨k - 1, by omega⟩
      obtain ⟨h1, h2⟩ := hsp n (by omega) hn
      rw [topiarylaw12_LexerStands.l1, if_pos hn, if_pos (by omega), if_pos (by omega), nat_of_bt d n (by omega) _ (getD_at d n (by omega)), ref_space_f, Option.bind_some, if_pos h1, if_pos h2, swr _ (by omega) (by omega), show (n : Int) + 1 = ((n + 1 : Nat) : Int) from by omega]
      exact ih (n + 1) k (by omega) (fun j h h' => hsp j (by omega) h') (by omega)
    · exact ih n k (by omega) hsp (by omega)
theorem stands_l0 (d : ByteArray) (hs : d.size ≤ 65536) (l : List Tok) (hl : l.length ≤ 65536) : ∀ (r : List Tok) (i : Nat) (a : Int) (x : Bool) (k : Nat), l.drop i = r → i ≤ l.length → 0 ≤ a → Seg d.data.toList a x r d.size false → 70000 * r.length + 1 ≤ k →
    topiarylaw12_LexerStands.l0 k d true l a x i = some true := by
  intro r
  induction r with
  | nil =>
    intro i a x k hr hi ha hseg hk
    obtain ⟨k, rfl⟩ : ∃ j, k = j + 1 := ⟨k - 1, by omega⟩
    have hlen := congrArg List.length hr
    rw [List.length_drop, List.length_nil] at hlen
    obtain ⟨h1, h2⟩ := hseg
    rw [topiarylaw12_LexerStands.l0, if_neg (by omega), if_pos rfl, if_pos h1, h2]
    rfl
  | cons t r ih =>
    intro i a x k hr hi ha hseg hk
    have hlen := congrArg List.length hr
    rw [List.length_drop, List.length_cons] at hlen
    rw [List.length_cons] at hk
    obtain ⟨k, rfl⟩ : ∃ j, k = j + 2 := ⟨k - 2, by omega⟩
    obtain ⟨h1, h2, h3, h4, h5, h6⟩ := hseg
    have hrd : rd_T46 l i = t := by
      unfold rd_T46
      rw [Int.toNat_natCast, List.getD_eq_getElem?_getD]
      have : l[i]? = some t := by
        have := congrArg List.head? hr
        rw [List.head?_drop] at this
        exact this
      rw [this]; rfl
    rw [← Lib.size_eq] at h3
    rw [topiarylaw12_LexerStands.l0, if_pos (by omega), if_pos (by omega), hrd, if_neg (by omega), if_neg (by omega), decide_eq_false (by omega), topiarylaw12_LexerStands.j1, if_neg (by decide)]
    obtain ⟨n, rfl⟩ : ∃ n : Nat, a = n := ⟨a.toNat, by omega⟩
    refine stands_l1 d hs l x i (by omega) hl _ _ _ _ _ (70000 * r.length + 1) (by omega) h5 ?_ 66000 n k (by omega) (fun j c1 c2 => h4 j (by omega) c2) (by omega)
    intro k' hk'
    exact ih (i + 1) t.f2 (opens t.f0) k' (by rw [← List.drop_drop, hr]; rfl) (by omega) (by omega) h6 hk'
theorem LexerStands : topiarylaw12_LexerStands.Pure := by
  intro s hs
  obtain ⟨t, ht, hsz, _⟩ := short12 s 200
  rw [show ((200 : Nat) : Int) = 200 from rfl] at ht
  refine ⟨70000 * (lexV t).1.length + 1, ?_⟩
  unfold topiarylaw12_LexerStands.f
  rw [awake12, Option.bind_some, ht, Option.bind_some, lexer_Lex.f, if_pos (by omega), Option.bind_some]
  by_cases h0 : (lexV t).2 = 0
  · have hlen : (lexV t).1.length ≤ 65536 := by
      have : ∀ (r : List Tok) (a b : Int) (x y : Bool), Seg t.data.toList a x r b y → (r.length : Int) ≤ b - a := by
        intro r
        induction r with
        | nil => intro a b x y h; obtain ⟨rfl, _⟩ := h; simp
        | cons u r ih =>
          intro a b x y h
          obtain ⟨h1, h2, h3, h4, h5, h6⟩ := h
          have := ih _ _ _ _ h6
          rw [List.length_cons]; omega
      have := this _ _ _ _ _ (lexV_seg t h0)
      omega
    rw [if_pos h0]
    exact stands_l0 t (by omega) _ hlen (lexV t).1 0 0 false _ (by rw [List.drop_zero]) (by omega) (by omega) (lexV_seg t h0) (by omega)
  · rw [if_neg h0, if_pos rfl, lexV_bad t h0]; rfl
end Go.Proofs.Ytekkaoenabjeiaa.Pure
end
section
namespace Go.Proofs.Ytekkaoenabjeiaa.X
end Go.Proofs.Ytekkaoenabjeiaa.X
namespace Go.Proofs.Ytekkaoenabjeiaa.Q
open Go.RowKit Go.Proofs.YtekkaoenabjeiaaW.PrintWords Go.Proofs.YtekkaoenabjeiaaW.PrintLast Go.Proofs.YtekkaoenabjeiaaW.PrintMore
attribute [local go_sem] max2_int min2_int max_two min_two max_three min_three max_four min_four   
open Go.Proofs.Ytekkaoenabjeiaa.X
set_option linter.unusedVariables false
set_option linter.unusedSimpArgs false
mutual
def topiarylaw12_LexerLimit.j0 : Nat → Bool → Int → Option (Bool)
  | 0, _, _ => none
  | k + 1, x3, x4 => if 0 ≤ (wrap64 (65536 + x4)) then (if (wrap64 (65536 + x4) : Int).toNat ≤ 281474976710656 then (topiarylaw12_LexerLimit.l0 k x3 x4 (List.replicate (wrap64 (65536 + x4) : Int).toNat 0) 0) else (none)) else (none)
def topiarylaw12_LexerLimit.l0 : Nat → Bool → Int → List Int → Int → Option (Bool)
  | 0, _, _, _, _ => none
  | k + 1, x3, x4, x5, x6 => if x6 < (x5.length : Int) then (if 0 ≤ x6 then (topiarylaw12_LexerLimit.l0 k x3 x4 (x5.set (x6 : Int).toNat 32) (wrap64 (x6 + 1))) else (none)) else ((lexer_Lex.f (strOfNums x5)).bind fun bt389 => (if x4 > 0 then (if x3 = true then (if bt389.2 = 18 then (some ((bt389.1.length : Int) == 0)) else (some false)) else (some false)) else (if x3 = true then (if bt389.2 = 0 then (if (bt389.1.length : Int) = 1 then (if 0 < (bt389.1.length : Int) then (some ((((rd_T46 bt389.1 0).f4).size : Int) == 65536)) else (none)) else (some false)) else (some false)) else (some false))))
end
def topiarylaw12_LexerLimit.f (k : Nat) (a0 : Int) : Option (Bool) := (topiarylaw12_awake.f).bind fun t384 => (if (Int.tmod a0 4) < 0 then (topiarylaw12_LexerLimit.j0 k t384 (wrap64 (-(Int.tmod a0 4)))) else (topiarylaw12_LexerLimit.j0 k t384 (Int.tmod a0 4)))
theorem topiarylaw12_LexerLimit.mono_l : ∀ k, (∀ y0 y1, LeO (topiarylaw12_LexerLimit.j0 k y0 y1) (topiarylaw12_LexerLimit.j0 (k + 1) y0 y1)) ∧ (∀ y0 y1 y2 y3, LeO (topiarylaw12_LexerLimit.l0 k y0 y1 y2 y3) (topiarylaw12_LexerLimit.l0 (k + 1) y0 y1 y2 y3))
  | 0 => ⟨fun _ _ r h => by simp [topiarylaw12_LexerLimit.j0] at h, fun _ _ _ _ r h => by simp [topiarylaw12_LexerLimit.l0] at h⟩
  | k + 1 => by
    obtain ⟨ih0, ih1⟩ := topiarylaw12_LexerLimit.mono_l k
    refine ⟨?_, ?_⟩
    · intro y0 y1
      unfold topiarylaw12_LexerLimit.j0
      repeat' first
      | (with_reducible exact ih0 _ _)
      | (with_reducible exact ih1 _ _ _ _)
      | (with_reducible exact LeO.refl _)
      | (with_reducible exact LeO.none _)
      | (with_reducible refine LeO.ite ?_ ?_)
      | (with_reducible refine LeO.bind ?_ (fun _ => ?_))
      | exact ih0 _ _
      | exact ih1 _ _ _ _
      | exact LeO.none _
      | refine LeO.ite ?_ ?_
      | refine LeO.bind ?_ (fun _ => ?_)
    · intro y0 y1 y2 y3
      unfold topiarylaw12_LexerLimit.l0
      repeat' first
      | (with_reducible exact ih0 _ _)
      | (with_reducible exact ih1 _ _ _ _)
      | (with_reducible exact LeO.refl _)
      | (with_reducible exact LeO.none _)
      | (with_reducible refine LeO.ite ?_ ?_)
      | (with_reducible refine LeO.bind ?_ (fun _ => ?_))
      | exact ih0 _ _
      | exact ih1 _ _ _ _
      | exact LeO.none _
      | refine LeO.ite ?_ ?_
      | refine LeO.bind ?_ (fun _ => ?_)
theorem topiarylaw12_LexerLimit.mono : ∀ a0 k, LeO (topiarylaw12_LexerLimit.f k a0) (topiarylaw12_LexerLimit.f (k + 1) a0) := by
  intro a0 k
  obtain ⟨ih0, ih1⟩ := topiarylaw12_LexerLimit.mono_l k
  unfold topiarylaw12_LexerLimit.f
  repeat' first
      | (with_reducible exact ih0 _ _)
      | (with_reducible exact ih1 _ _ _ _)
      | (with_reducible exact LeO.refl _)
      | (with_reducible exact LeO.none _)
      | (with_reducible refine LeO.ite ?_ ?_)
      | (with_reducible refine LeO.bind ?_ (fun _ => ?_))
      | exact ih0 _ _
      | exact ih1 _ _ _ _
      | exact LeO.none _
      | refine LeO.ite ?_ ?_
      | refine LeO.bind ?_ (fun _ => ?_)
set_option maxHeartbeats 8000000 in
set_option maxRecDepth 100000 in
theorem topiarylaw12_LexerLimit.calls (k : Nat) (a0 : Int) (r : Bool) (w : World) (hG : G w) (h : topiarylaw12_LexerLimit.f k a0 = some r) :
    Calls Try.prog 15 #[.int .i64 a0] w fun e w' => e = .returned (.bool r) ∧ Below w.heap.size w w' := by
  have HB := Aside0.mk (Below.refl w.heap.size w)
  have H : ((topiarylaw12_awake.f).bind fun t384 => (if (Int.tmod a0 4) < 0 then (topiarylaw12_LexerLimit.j0 k t384 (wrap64 (-(Int.tmod a0 4)))) else (topiarylaw12_LexerLimit.j0 k t384 (Int.tmod a0 4)))) = some r := h
  clear h
  replace H := Option.bind_eq_some_iff.mp H
  obtain ⟨t384, A20, H⟩ := H
  replace H : (if (Int.tmod a0 4) < 0 then (topiarylaw12_LexerLimit.j0 k t384 (wrap64 (-(Int.tmod a0 4)))) else (topiarylaw12_LexerLimit.j0 k t384 (Int.tmod a0 4))) = some r := H
  have A2 := Aside0.mk A20
  clear A20
  have HC3 := Aside0.mk H
  clear H
  go_enter Try.func15, Try.ntmps15
  go_upto_if 13 with (first | ((with_reducible refine gate_callee (f := 37) rfl ?_); refine goesL_ (some 9) rfl rfl Try.func37 (by kernel_rfl) rfl #[] rfl (by (try simp only [List.map_toArray, List.map_cons, List.map_nil]); first | done | rfl | (simp only [List.length_drop, List.length_take]; rfl)) ?_; (with_reducible refine (topiarylaw12_awake.calls  t384 _ (by first | exact hG | exact G.below hG (by repeat (first | (with_reducible first | exact HB.out | apply below_alloc | apply pw_below_drewN | apply below_drew1) | exact HB.out))) A2.out).mono ?_); rintro e w4 ⟨rfl, hb⟩; refine ⟨_, rfl, ?_⟩; have n0_ := Aside0.mk (below_step (by repeat (first | (with_reducible first | exact HB.out | apply below_alloc | apply pw_below_drewN | apply below_drew1) | exact HB.out)) hb); clear HB; have HB := n0_; clear n0_; (try clear hb); (try clear hb2); (try clear hk); (try clear hi)))
  (try simp only [Act.put, List.setIfInBounds_toArray, List.set_cons_zero, List.set_cons_succ])
  go_cut [4] (fun v4 wc => ∃ (kq : Nat) (x4_2 : Int), v4 = .int .i64 x4_2 ∧ Aside0 (topiarylaw12_LexerLimit.j0 kq t384 x4_2 = some r) ∧ Aside0 (kq ≤ k) ∧ Aside0 (Below w.heap.size w wc))
  case first =>
    have H := HC3.out
    clear HC3
    by_cases c5 : (Int.tmod a0 4) < 0
    · rw [if_pos c5] at H
      have c5b0 : decide ((Int.tmod a0 4) < 0) = true := decide_eq_true c5
      clear c5
      (first | rw [c5b0] | (simp only [i64_w, i32_w]; rw [c5b0]) | skip)
      have H' := Aside0.mk H
      clear H
      go_wp2
      go_meet
      case rel => exact ⟨_, (wrap64 (-(Int.tmod a0 4))), (by first | rfl | (simp; done) | (simp [*]; done)), H', ⟨by first | omega | exact Nat.le_refl _⟩, ⟨by repeat (first | (with_reducible first | exact HB.out | apply below_alloc | apply pw_below_drewN | apply below_drew1) | exact HB.out)⟩⟩
    · rw [if_neg c5] at H
      have c5b0 : decide ((Int.tmod a0 4) < 0) = false := decide_eq_false c5
      clear c5
      (first | rw [c5b0] | (simp only [i64_w, i32_w]; rw [c5b0]) | skip)
      have H' := Aside0.mk H
      clear H
      go_wp2
      go_meet
      case rel => exact ⟨_, (Int.tmod a0 4), (by first | rfl | (simp; done) | (simp [*]; done)), H', ⟨by first | omega | exact Nat.le_refl _⟩, ⟨by repeat (first | (with_reducible first | exact HB.out | apply below_alloc | apply pw_below_drewN | apply below_drew1) | exact HB.out)⟩⟩
  case rest =>
    clear HC3
    try clear c1
    try clear p2
    try clear c3
    try clear c5
    try clear c5b0
    obtain ⟨kq, x4_2, rfl, HA, HJ2, HB⟩ := hcut
    cases kq with
    | zero => exact absurd HA.out (by simp [topiarylaw12_LexerLimit.j0])
    | succ kj2 =>
      have H := HA.out
      clear HA
      simp only [topiarylaw12_LexerLimit.j0] at H
      obtain ⟨ji6, hji6⟩ : ∃ j_ : Int, (wrap64 (65536 + x4_2)) = j_ := ⟨_, rfl⟩
      replace H : (if 0 ≤ (ji6) then (if (ji6 : Int).toNat ≤ 281474976710656 then (topiarylaw12_LexerLimit.l0 kj2 t384 x4_2 (List.replicate (ji6 : Int).toNat 0) 0) else (none)) else (none)) = some r := by first | (rw [hji6] at H; exact H) | (simp only [hji6] at H ⊢; exact H)
      have hji6w : (IntKind.i64.wrap (65536 + x4_2)) = ji6 := (i64_w _).trans hji6
      by_cases c7 : 0 ≤ (ji6)
      · rw [if_pos c7] at H
        have c7b0 := eq_true c7
        have c7b1 : decide (0 ≤ (ji6)) = true := decide_eq_true c7
        clear c7
        by_cases c8 : (ji6 : Int).toNat ≤ 281474976710656
        · rw [if_pos c8] at H
          have c8b0 := eq_true c8
          have c8b1 : decide ((ji6 : Int).toNat ≤ 281474976710656) = true := decide_eq_true c8
          clear c8
          obtain ⟨y385, hy385⟩ : ∃ y_ : List Int, y_ = (List.replicate (ji6 : Int).toNat 0) := ⟨_, rfl⟩
          replace H : (topiarylaw12_LexerLimit.l0 kj2 t384 x4_2 y385 0) = some r := by first | (rw [hy385]; with_reducible exact H) | (have H2_ := (Option.bind_some _ _).symm.trans H; rw [hy385]; with_reducible exact H2_) | (have H2_ := (Option.bind_some _ _).symm.trans H; with_reducible exact H2_) | with_reducible exact H | (rw [hy385]; exact H) | exact H
          have Ny385 := Aside0.mk hy385
          clear hy385
          have H' := Aside0.mk H
          clear H
          go_wp2_with (first | ((with_reducible refine gate_dst (N := 18) rfl ?_); (try (refine gate_guard (by rfl) ?_; dsimp only)); refine Kd.R_make (Kd.int .u8) _ 5 rfl (N := 18) rfl 34 _ _ rfl ji6 rfl rfl Try.underlying34 (.int .u8 0) 1 info5 rfl (by decide) (by omega) 0 (ok := fun _ => True) (okp := fun _ => True) rfl (fun _ hk => hk) trivial (of_decide_eq_true (by first | (with_reducible assumption) | assumption)) (Nat.le_trans (Nat.mul_le_mul_right _ (of_decide_eq_true (by first | (with_reducible assumption) | assumption) : ji6.toNat ≤ 281474976710656)) (by omega)) (Below.refl _ _) (Nat.le_refl _) ?_; intro v386 w9 ho10 hb hg_ hnew_; clear hg_ hnew_; (first | rw [← Ny385.out] at ho10 | (simp only [Int.reduceToNat] at ho10; rw [← Ny385.out] at ho10)); have n0_ := Aside0.mk (Kd.R_lower ho10 (below_size (by repeat (first | (with_reducible first | exact HB.out | apply below_alloc | apply pw_below_drewN | apply below_drew1) | exact HB.out)))); have n1_ := Aside0.mk (below_step (by repeat (first | (with_reducible first | exact HB.out | apply below_alloc | apply pw_below_drewN | apply below_drew1) | exact HB.out)) hb); clear HB; have HO387 := n0_; have HB := n1_; clear n0_ n1_; clear hb ho10))
          go_loopg [6] kj2 (fun kq v6 w' => ∃ (x5_2 : List Int) (x6_2 : Int), v6 = .int .i64 x6_2 ∧ Aside0 (topiarylaw12_LexerLimit.l0 kq t384 x4_2 x5_2 x6_2 = some r) ∧ Aside0 (kq ≤ kj2) ∧ Aside0 (Kd.R (Kd.int .u8) 5 w' w.heap.size (fun _ => True) v386 x5_2) ∧ Aside0 (Below w.heap.size w w'))
          case atStart => exact ⟨(y385), (0), (by first | rfl | (simp; done) | (simp [*]; done)), H', ⟨Nat.le_refl _⟩, ⟨by (with_reducible repeat (first | apply Kd.R_alloc | apply Kd.R_drewN | apply Kd.R_drew)); exact HO387.out⟩, ⟨by repeat (first | (with_reducible first | exact HB.out | apply below_alloc | apply pw_below_drewN | apply below_drew1) | exact HB.out)⟩⟩
          case round =>
            clear H'
            try clear c1
            try clear p2
            try clear c3
            try clear c5
            try clear c5b0
            try clear p6
            try clear c7
            try clear c7b0
            try clear c7b1
            try clear c8
            try clear c8b0
            try clear c8b1
            try clear p2
            obtain ⟨x5_2, x6_2, rfl, HA, HK2, HO_5, HB⟩ := hrel
            cases gk with
            | zero => exact absurd HA.out (by simp [topiarylaw12_LexerLimit.l0])
            | succ k2 =>
              have H := HA.out
              clear HA
              simp only [topiarylaw12_LexerLimit.l0] at H
              by_cases c11 : x6_2 < (x5_2.length : Int)
              · rw [if_pos c11] at H
                have c11b0 : decide (x6_2 < (x5_2.length : Int)) = true := decide_eq_true c11
                clear c11
                by_cases c12 : 0 ≤ x6_2
                · rw [if_pos c12] at H
                  have c12b0 : decide (0 ≤ x6_2) = true := decide_eq_true c12
                  clear c12
                  obtain ⟨y388, hy388⟩ : ∃ y_ : List Int, y_ = (x5_2.set (x6_2 : Int).toNat 32) := ⟨_, rfl⟩
                  replace H : (topiarylaw12_LexerLimit.l0 k2 t384 x4_2 y388 (wrap64 (x6_2 + 1))) = some r := by first | (rw [hy388]; with_reducible exact H) | (have H2_ := (Option.bind_some _ _).symm.trans H; rw [hy388]; with_reducible exact H2_) | (have H2_ := (Option.bind_some _ _).symm.trans H; with_reducible exact H2_) | with_reducible exact H | (rw [hy388]; exact H) | exact H
                  have Ny388 := Aside0.mk hy388
                  clear hy388
                  have H' := Aside0.mk H
                  clear H
                  obtain ⟨Ao14, co14, eo14⟩ := Kd.R_slice HO_5.out
                  subst eo14
                  have p13 : 0 ≤ (x6_2 : Int) := of_decide_eq_true (by first | (with_reducible assumption) | assumption)
                  have q13 : (x6_2 : Int) < ((x5_2.length : Int) : Int) := of_decide_eq_true (by first | (with_reducible assumption) | assumption)
                  obtain ⟨go13, co13, eo13, gb13, gl13, cl13, HG13⟩ := Kd.R_form HO_5.out (by omega)
                  (first | cases eo13 | (injection eo13 with ea_ en_ ec_; (first | subst ea_ | (injection ea_ with ea_; subst ea_)); subst ec_; clear en_))
                  have GB13 := Aside0.mk gb13
                  have GG13 := Aside0.mk HG13
                  clear gb13 gl13 HG13
                  obtain ⟨hx13_0, hf13_0⟩ := Kd.R_celln 0 HO_5.out (x6_2 : Int) p13 q13
                  replace p13 := eq_true p13
                  replace q13 := eq_true q13
                  have HP15 := Kd.R_putg HO_5.out (x6_2 : Int) 32
                  go_wp2_with (first | ((with_reducible refine gate_store (t := 5) (p := 27) rfl ?_); refine store_event (t := 5) (p := 27) (v := ?vo_w16) (w1 := (wr.setCell ⟨go13, (x6_2 : Int).toNat, none⟩ (.int .u8 32))) ?hg ?ho ?hn ?hr ?_; (case ho => rfl); (case hg => rfl); (case hn => rfl); (case hr => first | (go_simp; done) | (go_simp; rfl)); intro w16 hw; have hg : wr.grownBy w16 (some go13) := (by rw [hw]; exact HP15.2); have hp_ : Kd.R (Kd.int .u8) 5 w16 w.heap.size (fun _ => True) (.slice (some ⟨go13, 0, none⟩) x5_2.length co14) y388 := (by rw [hw, Ny388.out]; exact HP15.1); clear HP15; have n0_ := Aside0.mk (hp_); have n1_ := Aside0.mk ((by rw [hw]; exact below_set (HB.out) GB13.out : Below w.heap.size w w16)); clear HO_5; clear HB; have HO_5 := n0_; have HB := n1_; clear n0_ n1_; clear hg hw hp_))
                  go_roundg k2
                  case measure => have := HJ2.out; have := HK2.out; omega
                  case rel => exact ⟨(y388), (wrap64 (x6_2 + 1)), (by first | rfl | (simp; done) | (simp [*]; done)), H', ⟨by have := HJ2.out; have := HK2.out; omega⟩, ⟨by (with_reducible repeat (first | apply Kd.R_alloc | apply Kd.R_drewN | apply Kd.R_drew)); exact HO_5.out⟩, ⟨by repeat (first | (with_reducible first | exact HB.out | apply below_alloc | apply pw_below_drewN | apply below_drew1) | exact HB.out)⟩⟩
                · rw [if_neg c12] at H
                  exact absurd H (by simp)
              · rw [if_neg c11] at H
                have c11b0 : decide (x6_2 < (x5_2.length : Int)) = false := decide_eq_false c11
                clear c11
                replace H := Option.bind_eq_some_iff.mp H
                obtain ⟨⟨t389, t390⟩, A170, H⟩ := H
                replace H : (if x4_2 > 0 then (if t384 = true then (if t390 = 18 then (some ((t389.length : Int) == 0)) else (some false)) else (some false)) else (if t384 = true then (if t390 = 0 then (if (t389.length : Int) = 1 then (if 0 < (t389.length : Int) then (some ((((rd_T46 t389 0).f4).size : Int) == 65536)) else (none)) else (some false)) else (some false)) else (some false))) = some r := H
                have A17 := Aside0.mk A170
                clear A170
                by_cases c18 : x4_2 > 0
                · rw [if_pos c18] at H
                  have c18b0 : decide (0 < x4_2) = true := decide_eq_true c18
                  clear c18
                  by_cases c19 : t384 = true
                  · subst c19
                    have H1 : (if t390 = 18 then (some ((t389.length : Int) == 0)) else (some false)) = some r := by rw [if_pos rfl] at H; exact H
                    clear H
                    have H := H1
                    clear H1
                    by_cases c20 : t390 = 18
                    · rw [if_pos c20] at H
                      have c20b0 : (t390 == 18) = true := beq_iff_eq.mpr c20
                      have c20b1 : (t390 != 18) = false := bne_eq_false_iff_eq.mpr c20
                      clear c20
                      obtain rfl := Option.some.inj H
                      obtain ⟨Ao21, co21, eo21⟩ := Kd.R_slice HO_5.out
                      subst eo21
                      have hcv22 := own_string (P := Try.prog) Try.underlying34 Try.underlying5 Try.underlying9 (Kd.own_of_R HO_5.out)
                      go_wp2_with (first | ((with_reducible refine gate_callee (f := 39) rfl ?_); refine goesL_ (some 31) rfl rfl Try.func39 (by kernel_rfl) rfl #[.string (strOfNums x5_2)] rfl (by (try simp only [List.map_toArray, List.map_cons, List.map_nil]); first | done | rfl | (simp only [List.length_drop, List.length_take]; rfl)) ?_; (with_reducible refine (lexer_Lex.calls (strOfNums x5_2) t389 t390 _ (by first | exact hG | exact G.below hG (by repeat (first | (with_reducible first | exact HB.out | apply below_alloc | apply pw_below_drewN | apply below_drew1) | exact HB.out))) A17.out).mono ?_); rintro e w23 ⟨v391, rfl, ho0, hb⟩; refine ⟨_, rfl, ?_⟩; have n0_ := Aside0.mk (Kd.R_below (by (with_reducible repeat (first | apply Kd.R_alloc | apply Kd.R_drewN | apply Kd.R_drew)); exact HO_5.out) hb); have n1_ := Aside0.mk (Kd.R_lower ho0 (below_size (by repeat (first | (with_reducible first | exact HB.out | apply below_alloc | apply pw_below_drewN | apply below_drew1) | exact HB.out)))); have n2_ := Aside0.mk (below_step (by repeat (first | (with_reducible first | exact HB.out | apply below_alloc | apply pw_below_drewN | apply below_drew1) | exact HB.out)) hb); clear HO_5; clear HB; have HO_5 := n0_; have HO392 := n1_; have HB := n2_; clear n0_ n1_ n2_; (try clear hb); (try clear hb2); (try clear hk); (try clear hi); (try clear ho0); obtain ⟨Ao24, co24, eo24⟩ := Kd.R_slice HO392.out; subst eo24))
                      go_ret
                      exact ⟨by first | rfl | (simp [errW_none, errW_some] <;> rfl) | (simp only [← hji6]; first | rfl | (simp [errW_none, errW_some] <;> rfl)) | (simp [*, errW_none, errW_some] <;> rfl), by repeat (first | (with_reducible first | exact HB.out | apply below_alloc | apply pw_below_drewN | apply below_drew1) | exact HB.out)⟩
                    · rw [if_neg c20] at H
                      have c20b0 : (t390 == 18) = false := beq_eq_false_iff_ne.mpr c20
                      have c20b1 : (t390 != 18) = true := bne_iff_ne.mpr c20
                      obtain rfl := Option.some.inj H
                      obtain ⟨Ao25, co25, eo25⟩ := Kd.R_slice HO_5.out
                      subst eo25
                      have hcv26 := own_string (P := Try.prog) Try.underlying34 Try.underlying5 Try.underlying9 (Kd.own_of_R HO_5.out)
                      go_wp2_with (first | ((with_reducible refine gate_callee (f := 39) rfl ?_); refine goesL_ (some 31) rfl rfl Try.func39 (by kernel_rfl) rfl #[.string (strOfNums x5_2)] rfl (by (try simp only [List.map_toArray, List.map_cons, List.map_nil]); first | done | rfl | (simp only [List.length_drop, List.length_take]; rfl)) ?_; (with_reducible refine (lexer_Lex.calls (strOfNums x5_2) t389 t390 _ (by first | exact hG | exact G.below hG (by repeat (first | (with_reducible first | exact HB.out | apply below_alloc | apply pw_below_drewN | apply below_drew1) | exact HB.out))) A17.out).mono ?_); rintro e w27 ⟨v391, rfl, ho0, hb⟩; refine ⟨_, rfl, ?_⟩; have n0_ := Aside0.mk (Kd.R_below (by (with_reducible repeat (first | apply Kd.R_alloc | apply Kd.R_drewN | apply Kd.R_drew)); exact HO_5.out) hb); have n1_ := Aside0.mk (Kd.R_lower ho0 (below_size (by repeat (first | (with_reducible first | exact HB.out | apply below_alloc | apply pw_below_drewN | apply below_drew1) | exact HB.out)))); have n2_ := Aside0.mk (below_step (by repeat (first | (with_reducible first | exact HB.out | apply below_alloc | apply pw_below_drewN | apply below_drew1) | exact HB.out)) hb); clear HO_5; clear HB; have HO_5 := n0_; have HO392 := n1_; have HB := n2_; clear n0_ n1_ n2_; (try clear hb); (try clear hb2); (try clear hk); (try clear hi); (try clear ho0)))
                      go_ret
                      exact ⟨by first | rfl | (simp [errW_none, errW_some] <;> rfl) | (simp only [← hji6]; first | rfl | (simp [errW_none, errW_some] <;> rfl)) | (simp [*, errW_none, errW_some] <;> rfl), by repeat (first | (with_reducible first | exact HB.out | apply below_alloc | apply pw_below_drewN | apply below_drew1) | exact HB.out)⟩
                  · replace c19 := Bool.eq_false_iff.mpr c19
                    subst c19
                    have H1 : (some false) = some r := by rw [if_neg (show ¬ (false = true) by decide)] at H; exact H
                    clear H
                    have H := H1
                    clear H1
                    obtain rfl := Option.some.inj H
                    obtain ⟨Ao28, co28, eo28⟩ := Kd.R_slice HO_5.out
                    subst eo28
                    have hcv29 := own_string (P := Try.prog) Try.underlying34 Try.underlying5 Try.underlying9 (Kd.own_of_R HO_5.out)
                    go_wp2_with (first | ((with_reducible refine gate_callee (f := 39) rfl ?_); refine goesL_ (some 31) rfl rfl Try.func39 (by kernel_rfl) rfl #[.string (strOfNums x5_2)] rfl (by (try simp only [List.map_toArray, List.map_cons, List.map_nil]); first | done | rfl | (simp only [List.length_drop, List.length_take]; rfl)) ?_; (with_reducible refine (lexer_Lex.calls (strOfNums x5_2) t389 t390 _ (by first | exact hG | exact G.below hG (by repeat (first | (with_reducible first | exact HB.out | apply below_alloc | apply pw_below_drewN | apply below_drew1) | exact HB.out))) A17.out).mono ?_); rintro e w30 ⟨v391, rfl, ho0, hb⟩; refine ⟨_, rfl, ?_⟩; have n0_ := Aside0.mk (Kd.R_below (by (with_reducible repeat (first | apply Kd.R_alloc | apply Kd.R_drewN | apply Kd.R_drew)); exact HO_5.out) hb); have n1_ := Aside0.mk (Kd.R_lower ho0 (below_size (by repeat (first | (with_reducible first | exact HB.out | apply below_alloc | apply pw_below_drewN | apply below_drew1) | exact HB.out)))); have n2_ := Aside0.mk (below_step (by repeat (first | (with_reducible first | exact HB.out | apply below_alloc | apply pw_below_drewN | apply below_drew1) | exact HB.out)) hb); clear HO_5; clear HB; have HO_5 := n0_; have HO392 := n1_; have HB := n2_; clear n0_ n1_ n2_; (try clear hb); (try clear hb2); (try clear hk); (try clear hi); (try clear ho0)))
                    go_ret
                    exact ⟨by first | rfl | (simp [errW_none, errW_some] <;> rfl) | (simp only [← hji6]; first | rfl | (simp [errW_none, errW_some] <;> rfl)) | (simp [*, errW_none, errW_some] <;> rfl), by repeat (first | (with_reducible first | exact HB.out | apply below_alloc | apply pw_below_drewN | apply below_drew1) | exact HB.out)⟩
                · rw [if_neg c18] at H
                  have c18b0 : decide (0 < x4_2) = false := decide_eq_false c18
                  clear c18
                  by_cases c31 : t384 = true
                  · subst c31
                    have H1 : (if t390 = 0 then (if (t389.length : Int) = 1 then (if 0 < (t389.length : Int) then (some ((((rd_T46 t389 0).f4).size : Int) == 65536)) else (none)) else (some false)) else (some false)) = some r := by rw [if_pos rfl] at H; exact H
                    clear H
                    have H := H1
                    clear H1
                    by_cases c32 : t390 = 0
                    · rw [if_pos c32] at H
                      have c32b0 : (t390 == 0) = true := beq_iff_eq.mpr c32
                      have c32b1 : (t390 != 0) = false := bne_eq_false_iff_eq.mpr c32
                      clear c32
                      by_cases c33 : (t389.length : Int) = 1
                      · rw [if_pos c33] at H
                        have c33b0 : ((t389.length : Int) == 1) = true := beq_iff_eq.mpr c33
                        have c33b1 : ((t389.length : Int) != 1) = false := bne_eq_false_iff_eq.mpr c33
                        clear c33
                        by_cases c34 : 0 < (t389.length : Int)
                        · rw [if_pos c34] at H
                          have c34b0 : decide (0 < (t389.length : Int)) = true := decide_eq_true c34
                          have c34b1 : decide (0 < t389.length) = true := decide_eq_true (by omega)
                          clear c34
                          obtain rfl := Option.some.inj H
                          obtain ⟨Ao35, co35, eo35⟩ := Kd.R_slice HO_5.out
                          subst eo35
                          have hcv36 := own_string (P := Try.prog) Try.underlying34 Try.underlying5 Try.underlying9 (Kd.own_of_R HO_5.out)
                          go_wp2_with (first | ((with_reducible refine gate_callee (f := 39) rfl ?_); refine goesL_ (some 31) rfl rfl Try.func39 (by kernel_rfl) rfl #[.string (strOfNums x5_2)] rfl (by (try simp only [List.map_toArray, List.map_cons, List.map_nil]); first | done | rfl | (simp only [List.length_drop, List.length_take]; rfl)) ?_; (with_reducible refine (lexer_Lex.calls (strOfNums x5_2) t389 t390 _ (by first | exact hG | exact G.below hG (by repeat (first | (with_reducible first | exact HB.out | apply below_alloc | apply pw_below_drewN | apply below_drew1) | exact HB.out))) A17.out).mono ?_); rintro e w37 ⟨v391, rfl, ho0, hb⟩; refine ⟨_, rfl, ?_⟩; have n0_ := Aside0.mk (Kd.R_below (by (with_reducible repeat (first | apply Kd.R_alloc | apply Kd.R_drewN | apply Kd.R_drew)); exact HO_5.out) hb); have n1_ := Aside0.mk (Kd.R_lower ho0 (below_size (by repeat (first | (with_reducible first | exact HB.out | apply below_alloc | apply pw_below_drewN | apply below_drew1) | exact HB.out)))); have n2_ := Aside0.mk (below_step (by repeat (first | (with_reducible first | exact HB.out | apply below_alloc | apply pw_below_drewN | apply below_drew1) | exact HB.out)) hb); clear HO_5; clear HB; have HO_5 := n0_; have HO392 := n1_; have HB := n2_; clear n0_ n1_ n2_; (try clear hb); (try clear hb2); (try clear hk); (try clear hi); (try clear ho0); obtain ⟨Ao38, co38, eo38⟩ := Kd.R_slice HO392.out; subst eo38; have p393 : 0 ≤ (0 : Int) := (by omega); have q393 : 0 < (t389.length : Int) := of_decide_eq_true (by first | (with_reducible assumption) | assumption); obtain ⟨ad393, e393, hx393_0, hx393_1, hx393_2, hx393_3, hx393_4⟩ := at_T46 (Kd.R_reads' HO392.out).2.2 0 p393 q393; cases e393; have qi393 : (0 < t389.length) = True := eq_true (by omega); (try rw [show ((0 : Int)).toNat = 0 from rfl] at hx393_0); (try rw [show 0 * 5 = 0 from rfl] at hx393_0); (try rw [Addr.add_zero'] at hx393_0); (try rw [show ((0 : Int)).toNat = 0 from rfl] at hx393_1); (try rw [show 0 * 5 = 0 from rfl] at hx393_1); (try rw [Addr.add_zero'] at hx393_1); (try rw [show ((0 : Int)).toNat = 0 from rfl] at hx393_2); (try rw [show 0 * 5 = 0 from rfl] at hx393_2); (try rw [Addr.add_zero'] at hx393_2); (try rw [show ((0 : Int)).toNat = 0 from rfl] at hx393_3); (try rw [show 0 * 5 = 0 from rfl] at hx393_3); (try rw [Addr.add_zero'] at hx393_3); (try rw [show ((0 : Int)).toNat = 0 from rfl] at hx393_4); (try rw [show 0 * 5 = 0 from rfl] at hx393_4); (try rw [Addr.add_zero'] at hx393_4); replace p393 := eq_true p393; replace q393 := eq_true q393))
                          go_ret
                          exact ⟨by first | rfl | (simp [errW_none, errW_some] <;> rfl) | (simp only [← hji6]; first | rfl | (simp [errW_none, errW_some] <;> rfl)) | (simp [*, errW_none, errW_some] <;> rfl), by repeat (first | (with_reducible first | exact HB.out | apply below_alloc | apply pw_below_drewN | apply below_drew1) | exact HB.out)⟩
                        · rw [if_neg c34] at H
                          exact absurd H (by simp)
                      · rw [if_neg c33] at H
                        have c33b0 : ((t389.length : Int) == 1) = false := beq_eq_false_iff_ne.mpr c33
                        have c33b1 : ((t389.length : Int) != 1) = true := bne_iff_ne.mpr c33
                        obtain rfl := Option.some.inj H
                        obtain ⟨Ao39, co39, eo39⟩ := Kd.R_slice HO_5.out
                        subst eo39
                        have hcv40 := own_string (P := Try.prog) Try.underlying34 Try.underlying5 Try.underlying9 (Kd.own_of_R HO_5.out)
                        go_wp2_with (first | ((with_reducible refine gate_callee (f := 39) rfl ?_); refine goesL_ (some 31) rfl rfl Try.func39 (by kernel_rfl) rfl #[.string (strOfNums x5_2)] rfl (by (try simp only [List.map_toArray, List.map_cons, List.map_nil]); first | done | rfl | (simp only [List.length_drop, List.length_take]; rfl)) ?_; (with_reducible refine (lexer_Lex.calls (strOfNums x5_2) t389 t390 _ (by first | exact hG | exact G.below hG (by repeat (first | (with_reducible first | exact HB.out | apply below_alloc | apply pw_below_drewN | apply below_drew1) | exact HB.out))) A17.out).mono ?_); rintro e w41 ⟨v391, rfl, ho0, hb⟩; refine ⟨_, rfl, ?_⟩; have n0_ := Aside0.mk (Kd.R_below (by (with_reducible repeat (first | apply Kd.R_alloc | apply Kd.R_drewN | apply Kd.R_drew)); exact HO_5.out) hb); have n1_ := Aside0.mk (Kd.R_lower ho0 (below_size (by repeat (first | (with_reducible first | exact HB.out | apply below_alloc | apply pw_below_drewN | apply below_drew1) | exact HB.out)))); have n2_ := Aside0.mk (below_step (by repeat (first | (with_reducible first | exact HB.out | apply below_alloc | apply pw_below_drewN | apply below_drew1) | exact HB.out)) hb); clear HO_5; clear HB; have HO_5 := n0_; have HO392 := n1_; have HB := n2_; clear n0_ n1_ n2_; (try clear hb); (try clear hb2); (try clear hk); (try clear hi); (try clear ho0); obtain ⟨Ao42, co42, eo42⟩ := Kd.R_slice HO392.out; subst eo42))
                        go_ret
                        exact ⟨by first | rfl | (simp [errW_none, errW_some] <;> rfl) | (simp only [← hji6]; first | rfl | (simp [errW_none, errW_some] <;> rfl)) | (simp [*, errW_none, errW_some] <;> rfl), by repeat (first | (with_reducible first | exact HB.out | apply below_alloc | apply pw_below_drewN | apply below_drew1) | exact HB.out)⟩
                    · rw [if_neg c32] at H
                      have c32b0 : (t390 == 0) = false := beq_eq_false_iff_ne.mpr c32
                      have c32b1 : (t390 != 0) = true := bne_iff_ne.mpr c32
                      obtain rfl := Option.some.inj H
                      obtain ⟨Ao43, co43, eo43⟩ := Kd.R_slice HO_5.out
                      subst eo43
                      have hcv44 := own_string (P := Try.prog) Try.underlying34 Try.underlying5 Try.underlying9 (Kd.own_of_R HO_5.out)
                      go_wp2_with (first | ((with_reducible refine gate_callee (f := 39) rfl ?_); refine goesL_ (some 31) rfl rfl Try.func39 (by kernel_rfl) rfl #[.string (strOfNums x5_2)] rfl (by (try simp only [List.map_toArray, List.map_cons, List.map_nil]); first | done | rfl | (simp only [List.length_drop, List.length_take]; rfl)) ?_; (with_reducible refine (lexer_Lex.calls (strOfNums x5_2) t389 t390 _ (by first | exact hG | exact G.below hG (by repeat (first | (with_reducible first | exact HB.out | apply below_alloc | apply pw_below_drewN | apply below_drew1) | exact HB.out))) A17.out).mono ?_); rintro e w45 ⟨v391, rfl, ho0, hb⟩; refine ⟨_, rfl, ?_⟩; have n0_ := Aside0.mk (Kd.R_below (by (with_reducible repeat (first | apply Kd.R_alloc | apply Kd.R_drewN | apply Kd.R_drew)); exact HO_5.out) hb); have n1_ := Aside0.mk (Kd.R_lower ho0 (below_size (by repeat (first | (with_reducible first | exact HB.out | apply below_alloc | apply pw_below_drewN | apply below_drew1) | exact HB.out)))); have n2_ := Aside0.mk (below_step (by repeat (first | (with_reducible first | exact HB.out | apply below_alloc | apply pw_below_drewN | apply below_drew1) | exact HB.out)) hb); clear HO_5; clear HB; have HO_5 := n0_; have HO392 := n1_; have HB := n2_; clear n0_ n1_ n2_; (try clear hb); (try clear hb2); (try clear hk); (try clear hi); (try clear ho0)))
                      go_ret
                      exact ⟨by first | rfl | (simp [errW_none, errW_some] <;> rfl) | (simp only [← hji6]; first | rfl | (simp [errW_none, errW_some] <;> rfl)) | (simp [*, errW_none, errW_some] <;> rfl), by repeat (first | (with_reducible first | exact HB.out | apply below_alloc | apply pw_below_drewN | apply below_drew1) | exact HB.out)⟩
                  · replace c31 := Bool.eq_false_iff.mpr c31
                    subst c31
                    have H1 : (some false) = some r := by rw [if_neg (show ¬ (false = true) by decide)] at H; exact H
                    clear H
                    have H := H1
                    clear H1
                    obtain rfl := Option.some.inj H
                    obtain ⟨Ao46, co46, eo46⟩ := Kd.R_slice HO_5.out
                    subst eo46
                    have hcv47 := own_string (P := Try.prog) Try.underlying34 Try.underlying5 Try.underlying9 (Kd.own_of_R HO_5.out)
                    go_wp2_with (first | ((with_reducible refine gate_callee (f := 39) rfl ?_); refine goesL_ (some 31) rfl rfl Try.func39 (by kernel_rfl) rfl #[.string (strOfNums x5_2)] rfl (by (try simp only [List.map_toArray, List.map_cons, List.map_nil]); first | done | rfl | (simp only [List.length_drop, List.length_take]; rfl)) ?_; (with_reducible refine (lexer_Lex.calls (strOfNums x5_2) t389 t390 _ (by first | exact hG | exact G.below hG (by repeat (first | (with_reducible first | exact HB.out | apply below_alloc | apply pw_below_drewN | apply below_drew1) | exact HB.out))) A17.out).mono ?_); rintro e w48 ⟨v391, rfl, ho0, hb⟩; refine ⟨_, rfl, ?_⟩; have n0_ := Aside0.mk (Kd.R_below (by (with_reducible repeat (first | apply Kd.R_alloc | apply Kd.R_drewN | apply Kd.R_drew)); exact HO_5.out) hb); have n1_ := Aside0.mk (Kd.R_lower ho0 (below_size (by repeat (first | (with_reducible first | exact HB.out | apply below_alloc | apply pw_below_drewN | apply below_drew1) | exact HB.out)))); have n2_ := Aside0.mk (below_step (by repeat (first | (with_reducible first | exact HB.out | apply below_alloc | apply pw_below_drewN | apply below_drew1) | exact HB.out)) hb); clear HO_5; clear HB; have HO_5 := n0_; have HO392 := n1_; have HB := n2_; clear n0_ n1_ n2_; (try clear hb); (try clear hb2); (try clear hk); (try clear hi); (try clear ho0)))
                    go_ret
                    exact ⟨by first | rfl | (simp [errW_none, errW_some] <;> rfl) | (simp only [← hji6]; first | rfl | (simp [errW_none, errW_some] <;> rfl)) | (simp [*, errW_none, errW_some] <;> rfl), by repeat (first | (with_reducible first | exact HB.out | apply below_alloc | apply pw_below_drewN | apply below_drew1) | exact HB.out)⟩
        · rw [if_neg c8] at H
          exact absurd H (by simp)
      · rw [if_neg c7] at H
        exact absurd H (by simp)
def topiarylaw12_LexerLimit.Pure : Prop := ∀ (a0 : Int), (Lit.int .i64 a0).wf = true → ∃ k, topiarylaw12_LexerLimit.f k a0 = some true
theorem topiarylaw12_LexerLimit.walk (P : topiarylaw12_LexerLimit.Pure) (a0 : Int) (w : World) (hG : G w) (w0 : (Lit.int .i64 a0).wf = true) :
    Calls Try.prog 15 #[.int .i64 a0] w fun e w' => e = .returned (.bool true) ∧ Below w.heap.size w w' := by
  obtain ⟨k, h⟩ := P a0 w0
  refine (topiarylaw12_LexerLimit.calls k a0 true w hG h).mono ?_
  rintro e w' ⟨rfl, hd⟩
  exact ⟨rfl, hd⟩
end Go.Proofs.Ytekkaoenabjeiaa.Q
end
