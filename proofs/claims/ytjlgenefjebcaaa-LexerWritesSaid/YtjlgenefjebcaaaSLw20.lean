/- Parts of the proof of lexerWrites_holds, kept and merged by a program of mine (wip/tools/slim.py) out of my texts: P11d PureLexerWrites -/
import Derived.Test.YtjlgenefjebcaaaSLw4
import Derived.Test.YtjlgenefjebcaaaSLw18
import Derived.Test.YtjlgenefjebcaaaSLw11
import Derived.Test.YtjlgenefjebcaaaSLw16
import Derived.Test.YtjlgenefjebcaaaSLw5
import Derived.Test.YtjlgenefjebcaaaSLw19
import Derived.Test.YtjlgenefjebcaaaSLw17
import Derived.Test.YtjlgenefjebcaaaSLw14
section
set_option linter.unusedVariables false
set_option linter.unusedSimpArgs false
namespace Go.Proofs.Ytjlgenefjebcaaa.P11
open Go Go.RowKit Go.Proofs.Ytjlgenefjebcaaa Go.Proofs.Ytjlgenefjebcaaa.Q Go.Proofs.YtjlgenefjebcaaaW.PrintWords Go.Proofs.Ytjlgenefjebcaaa.X Go.Proofs.Ytjlgenefjebcaaa.RefE
def lessN (n : Nat) : Int := if n = 2 then 192 else if n = 3 then 224 else if n = 4 then 240 else 0
def codeGo : Int → List UInt8 → Int
  | c, [] => c
  | c, b :: t => codeGo (c * 64 + (b.toNat : Int) - 128) t
def refCode (n : Nat) : List UInt8 → Int
  | [] => 0
  | b :: t => codeGo ((b.toNat : Int) - lessN n) (t.take (n - 1))
theorem refCode_enc (c : Int) (hp : pointB c = true) (t : List UInt8) : refCode (sizeN c).toNat (encL c ++ t) = c := by
  have hb := point_range hp
  unfold encL sizeN
  rw [if_pos hp]
  by_cases h1 : c < 128
  · rw [if_pos h1, if_pos h1]
    have e0 := byteI_nat c hb.1 (by omega)
    show codeGo ((byteI c).toNat - lessN 1) [] = c
    rw [codeGo, show lessN 1 = 0 from rfl]; omega
  rw [if_neg h1, if_neg h1]
  by_cases h2 : c < 2048
  · rw [if_pos h2, if_pos h2]
    have e0 := byteI_nat (192 + c / 64) (by omega) (by omega)
    have e1 := byteI_nat (128 + c % 64) (by omega) (by omega)
    show codeGo ((byteI (192 + c / 64)).toNat - lessN 2) [byteI (128 + c % 64)] = c
    rw [codeGo, codeGo, show lessN 2 = 192 from rfl]; omega
  rw [if_neg h2, if_neg h2]
  by_cases h3 : c < 65536
  · rw [if_pos h3, if_pos h3]
    have e0 := byteI_nat (224 + c / 4096) (by omega) (by omega)
    have e1 := byteI_nat (128 + c / 64 % 64) (by omega) (by omega)
    have e2 := byteI_nat (128 + c % 64) (by omega) (by omega)
    show codeGo ((byteI (224 + c / 4096)).toNat - lessN 3) [byteI (128 + c / 64 % 64), byteI (128 + c % 64)] = c
    rw [codeGo, codeGo, codeGo, show lessN 3 = 224 from rfl]; omega
  rw [if_neg h3, if_neg h3]
  have e0 := byteI_nat (240 + c / 262144) (by omega) (by omega)
  have e1 := byteI_nat (128 + c / 4096 % 64) (by omega) (by omega)
  have e2 := byteI_nat (128 + c / 64 % 64) (by omega) (by omega)
  have e3 := byteI_nat (128 + c % 64) (by omega) (by omega)
  show codeGo ((byteI (240 + c / 262144)).toNat - lessN 4) [byteI (128 + c / 4096 % 64), byteI (128 + c / 64 % 64), byteI (128 + c % 64)] = c
  rw [codeGo, codeGo, codeGo, codeGo, show lessN 4 = 240 from rfl]; omega
def tryN (n : Nat) (l : List UInt8) : Bool := decide (encL (refCode n l) ≠ []) && (encL (refCode n l) == l.take n)
theorem try_yes (n : Nat) (l : List UInt8) (hn : n ≤ l.length) (h : tryN n l = true) : decL l = (refCode n l, (n : Int)) := by
  unfold tryN at h
  simp only [Bool.and_eq_true, decide_eq_true_eq, beq_iff_eq] at h
  obtain ⟨h1, h2⟩ := h
  have hp : pointB (refCode n l) = true := by
    by_cases hp : pointB (refCode n l) = true
    · exact hp
    · exact absurd ((enc_nil _).2 (by simpa using hp)) h1
  have hl := enc_len _ hp
  have hd := dec_enc _ hp (l.drop n)
  rw [h2, List.take_append_drop] at hd
  rw [hd]
  congr 1
  rw [← hl, h2, List.length_take]
  omega
theorem try_at (l : List UInt8) (h : ¬ (decL l).2 = 0) : tryN (decL l).2.toNat l = true ∧ 1 ≤ (decL l).2.toNat ∧ (decL l).2.toNat ≤ 4 ∧ (decL l).2.toNat ≤ l.length := by
  obtain ⟨hp, hs, t, ht⟩ := enc_dec l h
  have hr := dec_range l
  have hl := enc_len _ hp
  refine ⟨?_, by omega, by omega, by omega⟩
  have hc : refCode (decL l).2.toNat l = (decL l).1 := by
    have := refCode_enc _ hp t
    rw [← ht, ← hs] at this
    exact this
  unfold tryN
  rw [hc]
  simp only [Bool.and_eq_true, decide_eq_true_eq, beq_iff_eq]
  refine ⟨fun e => ?_, ?_⟩
  · rw [e] at hl
    have := sizeN_range (decL l).1
    simp at hl; omega
  · have : l.take (decL l).2.toNat = (encL (decL l).1 ++ t).take (decL l).2.toNat := by rw [← ht]
    rw [this, hs, ← hl, Int.toNat_natCast, List.take_left]
def triesFrom (l : List UInt8) : Nat → Nat → Int × Int
  | 0, _ => (-1, 0)
  | d + 1, n => if n ≤ l.length then (if tryN n l then (refCode n l, (n : Int)) else triesFrom l d (n + 1)) else (-1, 0)
theorem tries_eq (l : List UInt8) : triesFrom l 4 1 = decL l := by
  have hno : ∀ d n, n + d = 5 → (∀ m, 1 ≤ m → m < n → tryN m l = true → ¬ m ≤ l.length) → triesFrom l d n = decL l := by
    intro d
    induction d with
    | zero =>
      intro n hn h
      rw [triesFrom]
      by_cases h0 : (decL l).2 = 0
      · exact (dec_none l h0).symm
      · obtain ⟨a, b, c, e⟩ := try_at l h0
        exact absurd e (h _ b (by omega) a)
    | succ d ih =>
      intro n hn h
      rw [triesFrom]
      by_cases hl : n ≤ l.length
      · rw [if_pos hl]
        by_cases ht : tryN n l = true
        · rw [if_pos ht]
          exact (try_yes n l hl ht).symm
        · rw [if_neg ht]
          refine ih (n + 1) (by omega) fun m h1 h2 h3 => ?_
          by_cases hm : m = n
          · subst hm; exact absurd h3 ht
          · exact h m h1 (by omega) h3
      · rw [if_neg hl]
        by_cases h0 : (decL l).2 = 0
        · exact (dec_none l h0).symm
        · obtain ⟨a, b, c, e⟩ := try_at l h0
          by_cases hm : (decL l).2.toNat < n
          · exact absurd e (h _ b hm a)
          · omega
  exact hno 4 1 rfl fun m h1 h2 => by omega
theorem code_bound : ∀ (t : List UInt8) (c : Int), t.length ≤ 3 → -1000 ≤ c → c ≤ 1000 → -300000000 ≤ codeGo c t ∧ codeGo c t ≤ 300000000 := by
  intro t c h h0 h1
  match t, h with
  | [], _ => rw [codeGo]; omega
  | [x], _ => have := x.toNat_lt; rw [codeGo, codeGo]; omega
  | [x, y], _ => have := x.toNat_lt; have := y.toNat_lt; rw [codeGo, codeGo, codeGo]; omega
  | [x, y, z], _ => have := x.toNat_lt; have := y.toNat_lt; have := z.toNat_lt; rw [codeGo, codeGo, codeGo, codeGo]; omega
def endOf (k : Nat) (s : ByteArray) (a n : Nat) (code : Int) : Option (Int × Int) :=
  if encL code = [] then topiaryref11_Rune.l0 k s a ((n : Int) + 1) else if encL code = (s.data.toList.drop a).take n then some (code, (n : Int)) else topiaryref11_Rune.l0 k s a ((n : Int) + 1)
theorem rune_l1 (s : ByteArray) (a n : Nat) (hs : s.size ≤ 4294967296) (hn : n ≤ 4) (ha : a + n ≤ s.size) (d : Nat) : ∀ (i k : Nat) (c : Int), i + d = n → 1 ≤ i → i ≤ 4 → -300000000 ≤ c → c ≤ 300000000 →
    (∀ j, j ≤ d → -300000000 ≤ codeGo c ((s.data.toList.drop (a + i)).take j) ∧ codeGo c ((s.data.toList.drop (a + i)).take j) ≤ 300000000) →
    topiaryref11_Rune.l1 (k + d + 1) s a n c i = endOf k s a n (codeGo c ((s.data.toList.drop (a + i)).take d)) := by
  induction d with
  | zero =>
    intro i k c hi h1 h4 hc0 hc1 hall
    rw [topiaryref11_Rune.l1, if_neg (by omega), encode_f, Option.bind_some, List.take_zero, codeGo, Lib.toList_data]
    unfold endOf
    have hdat : (⟨(encL c).toArray⟩ : ByteArray).data.toList = encL c := rfl
    rw [hdat, wr ((n : Int) + 1) (by omega) (by omega)]
    by_cases he : encL c = []
    · rw [if_pos he, if_pos he]
    rw [if_neg he, if_neg he, if_pos (by omega), wr ((a : Int) + (n : Int)) (by omega) (by omega), if_pos (by omega), if_pos (by omega), Lib.extract_toList, Int.toNat_natCast, show ((a : Int) + (n : Int)).toNat - a = n from by omega]
  | succ d ih =>
    intro i k c hi h1 h4 hc0 hc1 hall
    have hlt : a + i < s.size := by omega
    rw [show k + (d + 1) + 1 = (k + d + 1) + 1 from by omega, topiaryref11_Rune.l1, if_pos (by omega)]
    have hw : wrap64 ((a : Int) + (i : Int)) = ((a + i : Nat) : Int) := by rw [wr _ (by omega) (by omega)]; omega
    rw [hw, if_pos (by omega), if_pos (by omega), if_neg (by omega), bt_get s _ hlt, drop_cons s _ hlt, List.take_succ_cons, codeGo]
    obtain ⟨x, hx⟩ : ∃ x, s[a + i] = x := ⟨_, rfl⟩
    rw [hx]
    have hxl := x.toNat_lt
    have hall' : ∀ j, j ≤ d → -300000000 ≤ codeGo (c * 64 + (x.toNat : Int) - 128) ((s.data.toList.drop (a + i + 1)).take j) ∧ codeGo (c * 64 + (x.toNat : Int) - 128) ((s.data.toList.drop (a + i + 1)).take j) ≤ 300000000 := by
      intro j hj
      have := hall (j + 1) (by omega)
      rw [drop_cons s _ hlt, List.take_succ_cons, codeGo, hx] at this
      exact this
    have h0 := hall' 0 (by omega)
    rw [List.take_zero, codeGo] at h0
    rw [wr (c * 64) (by omega) (by omega), wr (x.toNat : Int) (by omega) (by omega), wr (c * 64 + (x.toNat : Int)) (by omega) (by omega), wr (c * 64 + (x.toNat : Int) - 128) (by omega) (by omega), wr ((i : Int) + 1) (by omega) (by omega)]
    have := ih (i + 1) k (c * 64 + (x.toNat : Int) - 128) (by omega) (by omega) (by omega) h0.1 h0.2 hall'
    rw [show ((i + 1 : Nat) : Int) = (i : Int) + 1 from by omega, show a + (i + 1) = a + i + 1 from by omega] at this
    exact this
theorem rune_try (s : ByteArray) (a n : Nat) (hs : s.size ≤ 4294967296) (h1 : 1 ≤ n) (hn : n ≤ 4) (ha : a + n ≤ s.size) (k : Nat) :
    topiaryref11_Rune.l1 (k + n + 2) s a n 0 0 = endOf k s a n (refCode n (s.data.toList.drop a)) := by
  have hlt : a < s.size := by omega
  rw [topiaryref11_Rune.l1, if_pos (by omega)]
  have hw : wrap64 ((a : Int) + 0) = (a : Int) := by rw [wr _ (by omega) (by omega)]; omega
  rw [hw, if_pos (by omega), if_pos (by omega), if_pos rfl, bt_get s _ hlt, drop_cons s _ hlt]
  obtain ⟨x, hx⟩ : ∃ x, s[a] = x := ⟨_, rfl⟩
  rw [hx]
  have hxl := x.toNat_lt
  rw [wr (x.toNat : Int) (by omega) (by omega)]
  have hless : 0 ≤ lessN n ∧ lessN n ≤ 240 := by unfold lessN; repeat' split <;> omega
  have hj : ∀ y : Int, (n ≠ 3 → n ≠ 4 → y = lessN n) → topiaryref11_Rune.j4 (k + n + 1) s a n 0 (x.toNat : Int) y = topiaryref11_Rune.l1 (k + n) s a n ((x.toNat : Int) - lessN n) 1 := by
    intro y hy
    rw [topiaryref11_Rune.j4]
    by_cases h3 : n = 3
    · subst h3
      rw [if_pos (by omega), if_neg (by omega), wr _ (by omega) (by omega), wr _ (by omega) (by omega)]
      rfl
    · rw [if_neg (by omega)]
      by_cases h4 : n = 4
      · subst h4
        rw [if_pos (by omega), wr _ (by omega) (by omega), wr _ (by omega) (by omega)]
        rfl
      · rw [if_neg (by omega), hy h3 h4, wr _ (by omega) (by omega), wr _ (by omega) (by omega)]
        rfl
  have hfin : topiaryref11_Rune.l1 (k + n) s a n ((x.toNat : Int) - lessN n) 1 = endOf k s a n (refCode n (x :: s.data.toList.drop (a + 1))) := by
    have hb : ∀ j, j ≤ n - 1 → -300000000 ≤ codeGo ((x.toNat : Int) - lessN n) ((s.data.toList.drop (a + 1)).take j) ∧ codeGo ((x.toNat : Int) - lessN n) ((s.data.toList.drop (a + 1)).take j) ≤ 300000000 :=
      fun j hj => code_bound _ _ (by rw [List.length_take]; omega) (by omega) (by omega)
    have := rune_l1 s a n hs hn ha (n - 1) 1 k ((x.toNat : Int) - lessN n) (by omega) (by omega) (by omega) (by omega) (by omega) hb
    rw [show k + (n - 1) + 1 = k + n from by omega] at this
    exact this
  by_cases h2 : n = 2
  · subst h2
    rw [if_pos (by rfl), hj 192 (fun _ _ => rfl), hfin]
  · rw [if_neg (by omega), hj 0 (fun h3 h4 => by unfold lessN; rw [if_neg h2, if_neg h3, if_neg h4]), hfin]
theorem rune_l0 (s : ByteArray) (a : Nat) (hs : s.size ≤ 4294967296) (ha : a < s.size) (d : Nat) : ∀ (n k : Nat), n + d = 5 → 1 ≤ n → 10 * d + 2 ≤ k →
    topiaryref11_Rune.l0 k s a n = some (triesFrom (s.data.toList.drop a) d n) := by
  have hlen : (s.data.toList.drop a).length = s.size - a := by rw [List.length_drop, len_data]
  induction d with
  | zero =>
    intro n k hn h1 hk
    obtain ⟨k, rfl⟩ : ∃ m, k = m + 2 := ⟨k - 2, by omega⟩
    rw [topiaryref11_Rune.l0, if_neg (by omega), topiaryref11_Rune.j2, if_neg (by decide), triesFrom]
  | succ d ih =>
    intro n k hn h1 hk
    obtain ⟨k, rfl⟩ : ∃ m, k = m + n + 4 := ⟨k - n - 4, by omega⟩
    rw [topiaryref11_Rune.l0, if_pos (by omega), wr ((s.size : Int) - (a : Int)) (by omega) (by omega), triesFrom]
    by_cases hl : n ≤ (s.data.toList.drop a).length
    · rw [if_pos hl, show decide ((n : Int) ≤ (s.size : Int) - (a : Int)) = true from by simp; omega, topiaryref11_Rune.j2, if_pos rfl, rune_try s a n hs h1 (by omega) (by omega)]
      unfold endOf
      have hr := ih (n + 1) k (by omega) (by omega) (by omega)
      rw [show ((n + 1 : Nat) : Int) = (n : Int) + 1 from by omega] at hr
      by_cases he : encL (refCode n (s.data.toList.drop a)) = []
      · have ht : tryN n (s.data.toList.drop a) = false := by unfold tryN; simp [he]
        rw [if_pos he, ht, hr]; rfl
      · rw [if_neg he]
        by_cases he2 : encL (refCode n (s.data.toList.drop a)) = (s.data.toList.drop a).take n
        · have ht : tryN n (s.data.toList.drop a) = true := by unfold tryN; simp [he, ← he2]
          rw [if_pos he2, ht]; rfl
        · have ht : tryN n (s.data.toList.drop a) = false := by unfold tryN; simp [he2]
          rw [if_neg he2, ht, hr]; rfl
    · rw [if_neg hl, show decide ((n : Int) ≤ (s.size : Int) - (a : Int)) = false from by simp; omega, topiaryref11_Rune.j2, if_neg (by decide)]
theorem ref_rune_f (s : ByteArray) (a : Int) (hs : s.size ≤ 4294967296) (k : Nat) : topiaryref11_Rune.f (k + 43) s a = some (runeP s.data.toList a) := by
  have hl := len_data s
  unfold topiaryref11_Rune.f runeP
  by_cases h0 : a < 0
  · rw [if_pos h0, topiaryref11_Rune.j0, if_pos rfl, if_neg (by omega)]
  rw [if_neg h0]
  by_cases h1 : a ≥ (s.size : Int)
  · rw [show decide (a ≥ (s.size : Int)) = true from by simpa using h1, topiaryref11_Rune.j0, if_pos rfl, if_neg (by omega)]
  · obtain ⟨n, rfl⟩ := Int.eq_ofNat_of_zero_le (by omega : 0 ≤ a)
    rw [show decide ((n : Int) ≥ (s.size : Int)) = false from by simpa using h1, topiaryref11_Rune.j0, if_neg (by decide), if_pos (by omega), Int.toNat_natCast]
    have := rune_l0 s n hs (by omega) 4 1 (k + 42) rfl (by omega) (by omega)
    rw [tries_eq] at this
    exact this
theorem ref_valid_l0 (s : ByteArray) (hs : s.size ≤ 4294967296) (d : Nat) : ∀ (n k : Nat), s.size - n = d → n ≤ s.size → d + 50 ≤ k → topiaryref11_Valid.l0 k s n = some (validL (s.data.toList.drop n)) := by
  induction d using Nat.strongRecOn with
  | ind d ih =>
    intro n k hd hn hk
    obtain ⟨k, rfl⟩ : ∃ m, k = m + 1 := ⟨k - 1, by omega⟩
    rw [topiaryref11_Valid.l0]
    by_cases hlt : n < s.size
    · rw [if_pos (by omega), show k = (k - 43) + 43 from by omega, ref_rune_f s n hs, Option.bind_some, allowed_f, Option.bind_some, valid_at s n hlt]
      have hp : runeP s.data.toList (n : Int) = decL (s.data.toList.drop n) := by
        unfold runeP
        rw [if_pos ⟨by omega, by rw [len_data]; omega⟩, Int.toNat_natCast]
      have hr := dec_range (s.data.toList.drop n)
      rw [← hp, List.length_drop, len_data] at hr
      by_cases h0 : (runeP s.data.toList (n : Int)).2 = 0
      · rw [if_pos h0, h0]; rfl
      · rw [if_neg h0, show decide (0 < (runeP s.data.toList (n : Int)).2) = true from by simp; omega, Bool.true_and]
        by_cases ha : allowedB (runeP s.data.toList (n : Int)).1 = true
        · rw [if_pos ha, ha, Bool.true_and, wr _ (by omega) (by omega), show (n : Int) + (runeP s.data.toList (n : Int)).2 = ((n + (runeP s.data.toList (n : Int)).2.toNat : Nat) : Int) from by omega]
          exact ih _ (by omega) _ _ rfl (by omega) (by omega)
        · rw [if_neg ha, show allowedB (runeP s.data.toList (n : Int)).1 = false from by simpa using ha]; rfl
    · rw [if_neg (by omega), List.drop_of_length_le (by rw [len_data]; omega)]; rfl
theorem ref_valid_f (s : ByteArray) (hs : s.size ≤ 4294967296) (k : Nat) : topiaryref11_Valid.f (s.size + 50 + k) s = some (validL s.data.toList) :=
  ref_valid_l0 s hs s.size 0 _ (by omega) (by omega) (by omega)
theorem nat_of_bt (s : ByteArray) (n : Nat) (h : n < s.size) (c : UInt8) (hc : s[n] = c) : bt s (n : Int) = (c.toNat : Int) := by rw [bt_get s n h, hc]
theorem ref_escape_l0 (s : ByteArray) (hs : s.size ≤ 4294967296) (d : Nat) : ∀ (n k : Nat) (t : ByteArray), s.size - n = d → n ≤ s.size → d + 1 ≤ k → t.size ≤ 6 * n → topiaryref11_Escape.l0 k s t n = some (t ++ ⟨(escL (s.data.toList.drop n)).toArray⟩) := by
  have happ : ∀ (t : ByteArray) (l : List UInt8), (t ++ (⟨l.toArray⟩ : ByteArray)).size = t.size + l.length := by
    intro t l
    have h : (⟨l.toArray⟩ : ByteArray).size = l.length := by simp [ByteArray.size]
    rw [ByteArray.size_append, h]
  induction d with
  | zero =>
    intro n k t hd hn hk ht
    obtain ⟨k, rfl⟩ : ∃ m, k = m + 1 := ⟨k - 1, by omega⟩
    rw [topiaryref11_Escape.l0, if_neg (by omega), List.drop_of_length_le (by rw [len_data]; omega)]
    congr 1
    exact (ByteArray.append_empty).symm
  | succ d ih =>
    intro n k t hd hn hk ht
    obtain ⟨k, rfl⟩ : ∃ m, k = m + 1 := ⟨k - 1, by omega⟩
    have hlt : n < s.size := by omega
    obtain ⟨c, hc⟩ : ∃ c, s[n] = c := ⟨_, rfl⟩
    have hw : wrap64 ((n : Int) + 1) = ((n + 1 : Nat) : Int) := by rw [wr _ (by omega) (by omega)]; omega
    have hstep : ∀ l : List UInt8, l.length ≤ 6 → escB c = l → topiaryref11_Escape.l0 k s (t ++ (⟨l.toArray⟩ : ByteArray)) ((n + 1 : Nat) : Int) = some (t ++ ⟨(escL (s.data.toList.drop n)).toArray⟩) := by
      intro l hl he
      rw [ih (n + 1) k _ (by omega) (by omega) (by omega) (by rw [happ]; omega), drop_cons s n hlt, hc]
      congr 1
      rw [ByteArray.append_assoc]
      congr 1
      have : escL (c :: s.data.toList.drop (n + 1)) = l ++ escL (s.data.toList.drop (n + 1)) := by rw [← he]; simp [escL]
      rw [this, ← List.append_toArray]
      apply ByteArray.ext
      rw [ByteArray.data_append]
    rw [topiaryref11_Escape.l0, if_pos (by omega), if_pos (by omega), nat_of_bt s n hlt c hc, hw]
    have hne : ∀ b : UInt8, ¬ c = b → ¬ ((c.toNat : Int) = (b.toNat : Int)) := fun b h e => h (UInt8.toNat_inj.1 (by omega))
    by_cases h1 : c = 38
    · subst h1
      rw [if_pos (show (((38 : UInt8).toNat : Int)) = 38 from rfl), if_pos (by omega)]
      exact hstep [38, 97, 109, 112, 59] (by decide) rfl
    rw [if_neg (show ¬ ((c.toNat : Int) = 38) from hne 38 h1)]
    by_cases h2 : c = 60
    · subst h2
      rw [if_pos (show (((60 : UInt8).toNat : Int)) = 60 from rfl), if_pos (by omega)]
      exact hstep [38, 108, 116, 59] (by decide) rfl
    rw [if_neg (show ¬ ((c.toNat : Int) = 60) from hne 60 h2)]
    by_cases h3 : c = 62
    · subst h3
      rw [if_pos (show (((62 : UInt8).toNat : Int)) = 62 from rfl), if_pos (by omega)]
      exact hstep [38, 103, 116, 59] (by decide) rfl
    rw [if_neg (show ¬ ((c.toNat : Int) = 62) from hne 62 h3)]
    by_cases h4 : c = 34
    · subst h4
      rw [if_pos (show (((34 : UInt8).toNat : Int)) = 34 from rfl), if_pos (by omega)]
      exact hstep [38, 113, 117, 111, 116, 59] (by decide) rfl
    rw [if_neg (show ¬ ((c.toNat : Int) = 34) from hne 34 h4), if_pos (by omega), if_pos (by omega)]
    have hx : s.extract (n : Int).toNat ((n + 1 : Nat) : Int).toNat = ⟨[c].toArray⟩ := by
      rw [Lib.extract_eq, Int.toNat_natCast, Int.toNat_natCast, drop_cons s n hlt, hc, show n + 1 - n = 1 from by omega]
      rfl
    rw [hx, if_pos (by rw [show (⟨[c].toArray⟩ : ByteArray).size = 1 from rfl]; omega)]
    exact hstep [c] (by simp) (by unfold escB; rw [if_neg h1, if_neg h2, if_neg h3, if_neg h4])
theorem ref_escape_f (s : ByteArray) (hs : s.size ≤ 4294967296) (k : Nat) : topiaryref11_Escape.f (s.size + 1 + k) s = some ⟨(escL s.data.toList).toArray⟩ := by
  have := ref_escape_l0 s hs s.size 0 (s.size + 1 + k) ⟨#[]⟩ (by omega) (by omega) (by omega) (by decide)
  rw [List.drop_zero] at this
  unfold topiaryref11_Escape.f
  refine this.trans ?_
  congr 1
end Go.Proofs.Ytjlgenefjebcaaa.P11
end
section
set_option linter.unusedVariables false
set_option linter.unusedSimpArgs false
namespace Go.Proofs.Ytjlgenefjebcaaa.Pure
open Go.RowKit Go.Proofs.Ytjlgenefjebcaaa Go.Proofs.Ytjlgenefjebcaaa.Q Go.Proofs.YtjlgenefjebcaaaW.PrintWords Go.Proofs.Ytjlgenefjebcaaa.X Go.Proofs.Ytjlgenefjebcaaa.P11 Go.Proofs.Ytjlgenefjebcaaa.P12
def bL (l : List UInt8) : ByteArray := ⟨l.toArray⟩
theorem bL_app (a b : List UInt8) : bL a ++ bL b = bL (a ++ b) := by
  apply ByteArray.ext; apply Array.ext'; simp [bL]
theorem bL_size (a : List UInt8) : (bL a).size = a.length := by rw [Lib.size_eq]; rfl
theorem bL_list (a : List UInt8) : (bL a).toList = a := by rw [Lib.toList_data]; rfl
def EvW (g : Nat → Option Bool) : Prop := ∃ K, ∀ k, K ≤ k → g k = some true
theorem ew_up {g f : Nat → Option Bool} (n : Nat) (e : EvW f) (h : ∀ k, g (k + n) = f k) : EvW g := by
  obtain ⟨K, hK⟩ := e
  exact ⟨K + n, fun k hk => by rw [show k = (k - n) + n from by omega, h]; exact hK _ (by omega)⟩
theorem ew_upK {g f : Nat → Option Bool} (n m : Nat) (e : EvW f) (h : ∀ k, m ≤ k → g (k + n) = f k) : EvW g := by
  obtain ⟨K, hK⟩ := e
  exact ⟨K + m + n, fun k hk => by rw [show k = (k - n) + n from by omega, h _ (by omega)]; exact hK _ (by omega)⟩
theorem wrU (i : Nat) (h : i ≤ 1000000) : wrap64 ((i : Int) + 1) = ((i + 1 : Nat) : Int) := by unfold wrap64; omega
theorem has_l0 (s : ByteArray) (c : UInt8) (hs : s.size ≤ 1000000) : ∀ (d n k : Nat), n + d = s.size → d < k → topiarylaw12_has.l0 k s (c.toNat : Int) n = some (decide (c ∈ s.data.toList.drop n))
  | 0, n, k, hd, hk => by
    obtain ⟨k, rfl⟩ : ∃ j, k = j + 1 := ⟨k - 1, by omega⟩
    rw [topiarylaw12_has.l0, if_neg (by omega), List.drop_of_length_le (by rw [← Lib.size_eq]; omega)]; simp
  | d + 1, n, k, hd, hk => by
    obtain ⟨k, rfl⟩ : ∃ j, k = j + 1 := ⟨k - 1, by omega⟩
    have hn : n < s.size := by omega
    have ih := has_l0 s c hs d (n + 1) k (by omega) (by omega)
    rw [topiarylaw12_has.l0, if_pos (by omega), if_pos (by omega), bt_get s n hn, wrU n (by omega), ih, drop_cons s n hn]
    by_cases e : s[n] = c
    · rw [if_pos (by rw [e]), e]; simp
    · rw [if_neg (fun h => e (UInt8.toNat_inj.1 (by omega)))]
      congr 1
      rw [decide_eq_decide, List.mem_cons]
      exact ⟨fun h => .inr h, fun h => h.resolve_left fun h => e h.symm⟩
theorem has_f (s : ByteArray) (k : Nat) (hs : s.size ≤ 1000000) (hk : s.size < k) : topiarylaw12_has.f k s 39 = some (decide ((39 : UInt8) ∈ s.data.toList)) := by
  have := has_l0 s 39 hs s.size 0 k (by omega) hk
  rw [List.drop_zero] at this
  exact this
theorem esc_k (s : ByteArray) (k : Nat) (hs : s.size ≤ 100) (hk : 1000 ≤ k) : topiaryref11_Escape.f k s = some (bL (escL s.data.toList)) := by
  have := ref_escape_f s (by omega) (k - (s.size + 1))
  rw [show s.size + 1 + (k - (s.size + 1)) = k from by omega] at this
  exact this
theorem val_k (s : ByteArray) (k : Nat) (hs : s.size ≤ 100) (hk : 1000 ≤ k) : topiaryref11_Valid.f k s = some (validL s.data.toList) := by
  have := ref_valid_f s (by omega) (k - (s.size + 50))
  rw [show s.size + 50 + (k - (s.size + 50)) = k from by omega] at this
  exact this
theorem esc_len6 : ∀ l : List UInt8, (escL l).length ≤ 6 * l.length
  | [] => by simp [escL]
  | b :: t => by
    have := esc_len6 t
    have : (escB b).length ≤ 6 := by unfold escB; repeat' (split <;> try simp)
    rw [escL_cons, List.length_append, List.length_cons]; omega
def mkA (S nm : List UInt8) (q : UInt8) (v : List UInt8) : At := ⟨32 :: S, nm, S, S, q, escL v, v⟩
section
variable {l0 : List Int} {l1 : List ByteArray} {q0 q1 : Int} {S X nm v : List UInt8} {V M : List ByteArray}
theorem mkA_len (q : UInt8) (hS : S.length ≤ 10) (hn : nm.length ≤ 10) (hv : v.length ≤ 10) : (mkA S nm q v).out.length ≤ 200 := by
  have := esc_len6 v
  unfold At.out mkA
  simp only [List.length_append, List.length_cons, List.length_nil]
  omega
theorem j3_at (k j : Nat) (hk : 1000 ≤ k) (hj : j ≤ 1000) (hX : X.length ≤ 100000) (hS : S.length ≤ 10) (hn : nm.length ≤ 10) (hv : v.length ≤ 10) (hV : V.length ≤ 1000) (hM : M.length ≤ 1000) :
    topiarylaw12_LexerWrites.j3 (k + 1) l0 l1 true (bL S) (bL X) V M (j : Int) (bL nm) (bL v) q0 q1 =
      if j % 2 = 1 then (if (39 : UInt8) ∈ v then topiarylaw12_LexerWrites.l1 k l0 l1 true (bL S) (bL (X ++ (mkA S nm 39 [119]).out)) (V ++ [bL [119]]) (M ++ [bL nm]) ((j + 1 : Nat) : Int) q0 q1
        else topiarylaw12_LexerWrites.l1 k l0 l1 true (bL S) (bL (X ++ (mkA S nm 39 v).out)) (V ++ [bL v]) (M ++ [bL nm]) ((j + 1 : Nat) : Int) q0 q1)
      else topiarylaw12_LexerWrites.l1 k l0 l1 true (bL S) (bL (X ++ (mkA S nm 34 v).out)) (V ++ [bL v]) (M ++ [bL nm]) ((j + 1 : Nat) : Int) q0 q1 := by
  have he := esc_len6 v
  have e1 := has_f (bL v) k (by rw [bL_size]; omega) (by rw [bL_size]; omega)
  have e2 := esc_k (bL [119]) k (by rw [bL_size]; simp) hk
  have e3 := esc_k (bL v) k (by rw [bL_size]; omega) hk
  rw [show (bL v).data.toList = v from rfl] at e1 e3
  rw [show (bL [119]).data.toList = [119] from rfl, show escL [119] = [119] from rfl] at e2
  have hmod : (Int.tmod (j : Int) 2 = 1) ↔ j % 2 = 1 := by
    rw [show Int.tmod (j : Int) 2 = ((j % 2 : Nat) : Int) from by rw [Int.ofNat_tmod]; rfl]
    omega
  have fin : ∀ q w, escL w = escL w → (mkA S nm q w).out = 32 :: (S ++ (nm ++ (S ++ (61 :: (S ++ (q :: (escL w ++ [q]))))))) := fun q w _ => by
    unfold At.out mkA; simp only [List.cons_append, List.nil_append]
  rw [topiarylaw12_LexerWrites.j3]
  by_cases c : j % 2 = 1
  · rw [if_pos (hmod.2 c), if_pos c, e1, Option.bind_some]
    by_cases c2 : (39 : UInt8) ∈ v
    · rw [decide_eq_true c2, if_pos rfl, if_pos c2, show (⟨#[119]⟩ : ByteArray) = bL [119] from rfl, e2]
      simp only [show (⟨#[32]⟩ : ByteArray) = bL [32] from rfl, show (⟨#[61]⟩ : ByteArray) = bL [61] from rfl, show (⟨#[39]⟩ : ByteArray) = bL [39] from rfl, bL_app, bL_size, List.length_append, List.length_cons, List.length_nil, Option.bind_some]
      rw [if_pos (by omega), if_pos (by omega), if_pos (by omega), if_pos (by omega), if_pos (by omega), if_pos (by omega), if_pos (by omega), if_pos (by omega), if_pos (by omega), if_pos (by omega), if_pos (by omega), wrU j (by omega), fin 39 [119] rfl, show escL [119] = [119] from rfl]
      simp only [List.append_assoc, List.cons_append, List.nil_append]
    · rw [decide_eq_false c2, if_neg (by decide), if_neg c2, e3]
      simp only [show (⟨#[32]⟩ : ByteArray) = bL [32] from rfl, show (⟨#[61]⟩ : ByteArray) = bL [61] from rfl, show (⟨#[39]⟩ : ByteArray) = bL [39] from rfl, bL_app, bL_size, List.length_append, List.length_cons, List.length_nil, Option.bind_some]
      rw [if_pos (by omega), if_pos (by omega), if_pos (by omega), if_pos (by omega), if_pos (by omega), if_pos (by omega), if_pos (by omega), if_pos (by omega), if_pos (by omega), if_pos (by omega), if_pos (by omega), wrU j (by omega), fin 39 v rfl]
      simp only [List.append_assoc, List.cons_append, List.nil_append]
  · rw [if_neg (fun e => c (hmod.1 e)), if_neg c, e3]
    simp only [show (⟨#[32]⟩ : ByteArray) = bL [32] from rfl, show (⟨#[61]⟩ : ByteArray) = bL [61] from rfl, show (⟨#[34]⟩ : ByteArray) = bL [34] from rfl, bL_app, bL_size, List.length_append, List.length_cons, List.length_nil, Option.bind_some]
    rw [if_pos (by omega), if_pos (by omega), if_pos (by omega), if_pos (by omega), if_pos (by omega), if_pos (by omega), if_pos (by omega), if_pos (by omega), if_pos (by omega), if_pos (by omega), if_pos (by omega), wrU j (by omega), fin 34 v rfl]
    simp only [List.append_assoc, List.cons_append, List.nil_append]
end
theorem mkA_ok {S nm v : List UInt8} {q : UInt8} (hS : ∀ c, c ∈ S → spaceB c = true) (hn : NmL nm) (hq : q = 34 ∨ q = 39) (hv : q = 39 → ¬ (39 : UInt8) ∈ v) : (mkA S nm q v).Ok := by
  refine ⟨⟨by simp [mkA], fun c hc => ?_⟩, hn, hS, hS, hq, fun c hc => ?_, dec_esc v⟩
  · rcases List.mem_cons.1 hc with rfl | hc
    · decide
    · exact hS c hc
  · obtain ⟨h1, h2⟩ := esc_mem v c hc
    refine ⟨fun e => ?_, esc_no_less v c hc⟩
    have e : c = q := e
    rcases hq with e' | e'
    · exact h1 (e.trans e')
    · exact hv e' (h2 (e.trans e') |> fun h => by rw [e.trans e'] at h; exact h)
theorem nm_of (n : Int) (h0 : 0 ≤ n) (h1 : n ≤ 255) : ∃ c : UInt8, strOfNums [(97 + Int.tmod n 26) % 256] = bL [c] ∧ NmL [110, c] := by
  have hm : Int.tmod n 26 = n % 26 := Int.tmod_eq_emod_of_nonneg h0
  refine ⟨UInt8.ofNat ((97 + Int.tmod n 26) % 256).toNat, rfl, by simp, ?_⟩
  have hc : (UInt8.ofNat ((97 + Int.tmod n 26) % 256).toNat).toNat = (97 + n % 26).toNat := by
    rw [UInt8.toNat_ofNat', hm]; omega
  generalize UInt8.ofNat ((97 + Int.tmod n 26) % 256).toNat = c at hc
  have hb : nameB c = true := by unfold nameB; rw [decide_eq_true_eq]; omega
  rw [nameLen_cons, if_pos (by decide), List.takeWhile_cons_of_pos (by rw [hb]; rfl)]; rfl
structure St (S : List UInt8) (xs : List At) (X : List UInt8) (V M : List ByteArray) : Prop where
  ok : ∀ x, x ∈ xs → x.Ok ∧ validL x.w = true
  out : X = 60 :: 116 :: xs.flatMap At.out
  v : V = xs.map fun x => bL x.v
  m : M = xs.map fun x => bL x.n
  len : X.length ≤ 2 + 200 * xs.length
theorem St.add {S X : List UInt8} {xs : List At} {V M : List ByteArray} (h : St S xs X V M) {nm v : List UInt8} {q : UInt8} (hS : ∀ c, c ∈ S → spaceB c = true) (hn : NmL nm) (hq : q = 34 ∨ q = 39) (hv : q = 39 → ¬ (39 : UInt8) ∈ v) (hval : validL v = true) (h1 : S.length ≤ 10) (h2 : nm.length ≤ 10) (h3 : v.length ≤ 10) :
    St S (xs ++ [mkA S nm q v]) (X ++ (mkA S nm q v).out) (V ++ [bL v]) (M ++ [bL nm]) := by
  refine ⟨fun x hx => ?_, ?_, ?_, ?_, ?_⟩
  · rcases List.mem_append.1 hx with hx | hx
    · exact h.ok x hx
    · rw [List.mem_singleton] at hx
      subst hx
      exact ⟨mkA_ok hS hn hq hv, by show validL (escL v) = true; rw [valid_esc _ _ (Nat.le_refl _)]; exact hval⟩
  · rw [h.out]; simp
  · rw [h.v]; simp [mkA]
  · rw [h.m]; simp [mkA]
  · have := mkA_len (S := S) (nm := nm) (v := v) q h1 h2 h3
    have := h.len
    simp only [List.length_append, List.length_cons, List.length_nil] at *
    omega
section
variable {q0 q1 : Int} {S : List UInt8}
theorem look_l2 (xs : List At) (ts : List Tok) (nm : List UInt8) (empty : Bool) (he : Int.tmod q1 2 = 0 ↔ empty = true) (hl : xs.length ≤ 1000) (hk : ts.map keyT = (1, nm, []) :: ((xs.map fun x => ((2 : Int), x.n, x.v)) ++ [endKey empty])) : ∀ (d i : Nat), i + d = xs.length →
    EvW fun k => topiarylaw12_LexerWrites.l2 k true (xs.map fun x => bL x.v) (xs.map fun x => bL x.n) ts (i : Int) q0 q1
  | 0, i, hi => by
    have hlen : ts.length = xs.length + 2 := by have := congrArg List.length hk; simpa using this
    obtain ⟨t, ht, hkt⟩ : ∃ t, ts[xs.length + 1]? = some t ∧ keyT t = endKey empty := by
      have := congrArg (fun l => l[xs.length + 1]?) hk
      simp only [List.getElem?_map, List.getElem?_cons_succ] at this
      rw [List.getElem?_append_right (by simp), List.length_map, Nat.sub_self] at this
      cases hq : ts[xs.length + 1]? with
      | none => rw [hq] at this; simp at this
      | some t => rw [hq] at this; exact ⟨t, rfl, by simpa using this⟩
    refine ⟨1, fun k hk1 => ?_⟩
    obtain ⟨k, rfl⟩ : ∃ j, k = j + 1 := ⟨k - 1, by omega⟩
    have hw : wrap64 ((ts.length : Int) - 1) = ((xs.length + 1 : Nat) : Int) := by unfold wrap64; omega
    show topiarylaw12_LexerWrites.l2 (k + 1) _ _ _ _ _ _ _ = _
    rw [topiarylaw12_LexerWrites.l2, List.length_map, if_neg (by omega), hw, if_pos (by omega), if_pos (by omega), if_pos rfl]
    have hrd : rd_T41 ts ((xs.length + 1 : Nat) : Int) = t := by
      show ts.getD (xs.length + 1) _ = t
      rw [List.getD_eq_getElem?_getD, ht]; rfl
    rw [hrd]
    have hf : t.f0 = if empty = true then 4 else 3 := congrArg Prod.fst hkt
    rw [hf]
    cases empty with
    | true => rw [he.2 rfl]; rfl
    | false =>
      have : (Int.tmod q1 2 == 0) = false := by
        rw [beq_eq_false_iff_ne]
        exact fun e => absurd (he.1 e) (by decide)
      rw [this]; rfl
  | d + 1, i, hi => by
    have ih := look_l2 xs ts nm empty he hl hk d (i + 1) (by omega)
    have hlen : ts.length = xs.length + 2 := by have := congrArg List.length hk; simpa using this
    have hil : i < xs.length := by omega
    obtain ⟨t, ht, hkt⟩ : ∃ t, ts[i + 1]? = some t ∧ keyT t = (2, xs[i].n, xs[i].v) := by
      have := congrArg (fun l => l[i + 1]?) hk
      simp only [List.getElem?_map, List.getElem?_cons_succ] at this
      rw [List.getElem?_append_left (by simpa using hil), List.getElem?_map, List.getElem?_eq_getElem hil] at this
      cases hq : ts[i + 1]? with
      | none => rw [hq] at this; simp at this
      | some t => rw [hq] at this; exact ⟨t, rfl, by simpa using this⟩
    have hrd : rd_T41 ts ((i + 1 : Nat) : Int) = t := by
      show ts.getD (i + 1) _ = t
      rw [List.getD_eq_getElem?_getD, ht]; rfl
    have hrn : rdOf ByteArray.empty (xs.map fun x => bL x.n) (i : Int) = bL xs[i].n := by
      show (xs.map fun x => bL x.n).getD i _ = _
      rw [List.getD_eq_getElem?_getD, List.getElem?_map, List.getElem?_eq_getElem hil]; rfl
    have hrv : rdOf ByteArray.empty (xs.map fun x => bL x.v) (i : Int) = bL xs[i].v := by
      show (xs.map fun x => bL x.v).getD i _ = _
      rw [List.getD_eq_getElem?_getD, List.getElem?_map, List.getElem?_eq_getElem hil]; rfl
    have h1 : t.f0 = 2 := congrArg Prod.fst hkt
    have h2 : t.f3.data.toList = xs[i].n := congrArg (fun p => p.2.1) hkt
    have h3 : t.f4.data.toList = xs[i].v := congrArg (fun p => p.2.2) hkt
    refine ew_up 1 ih fun k => ?_
    show topiarylaw12_LexerWrites.l2 (k + 1) _ _ _ _ _ _ _ = _
    rw [topiarylaw12_LexerWrites.l2, List.length_map, List.length_map, if_pos (by omega), wrU i (by omega), if_pos (by omega), if_pos (by omega), hrd, if_pos h1, if_pos (by omega), if_pos (by omega), hrn, hrv, bL_list, bL_list, Lib.toList_data, Lib.toList_data, if_pos h2, if_pos h3]
theorem end_j4 (xs : List At) (X : List UInt8) (V M : List ByteArray) (h : St S xs X V M) (hS : ∀ c, c ∈ S → spaceB c = true) (hS1 : S.length ≤ 10) (hl : xs.length ≤ 10) (empty : Bool) (he : Int.tmod q1 2 = 0 ↔ empty = true) :
    EvW fun k => topiarylaw12_LexerWrites.j4 k true (bL (X ++ S ++ (if empty = true then [47] else []))) V M q0 q1 := by
  obtain ⟨d, hd⟩ : ∃ d : ByteArray, bL (X ++ S ++ (if empty = true then [47] else []) ++ [62]) = d := ⟨_, rfl⟩
  have hdl : d.data.toList = tagOut [116] xs S empty := by
    rw [← hd]
    show X ++ S ++ (if empty = true then [47] else []) ++ [62] = _
    rw [h.out]
    unfold tagOut ends
    cases empty <;> simp
  have hnm : NmL [116] := ⟨by decide, by decide⟩
  obtain ⟨ts, hts, hk⟩ := tag_lex d [116] xs S empty hdl hnm (fun x hx => (h.ok x hx).1) hS
  have hval : validL d.data.toList = true := by rw [hdl]; exact tag_valid hnm h.ok hS
  have hXl := h.len
  have hsz : d.size ≤ 10000 := by
    rw [← hd, bL_size]
    simp only [List.length_append, List.length_cons, List.length_nil]
    split
    · simp only [List.length_cons, List.length_nil]; omega
    · simp only [List.length_nil]; omega
  have hlex : lexer_Lex.f d = some (ts, 0) := by
    rw [lexer_Lex.f, if_pos (by omega)]
    unfold lexV
    rw [if_neg (by omega), hval, if_neg (by decide), hts]
  have hlen : ts.length = xs.length + 2 := by have := congrArg List.length hk; simpa using this
  obtain ⟨t, ht, hkt⟩ : ∃ t, ts[0]? = some t ∧ keyT t = (1, [116], []) := by
    cases ts with
    | nil => simp at hlen
    | cons t ts => rw [List.map_cons] at hk; injection hk with hk _; exact ⟨t, rfl, hk⟩
  have h2 : t.f3.data.toList = [116] := congrArg (fun p => p.2.1) hkt
  have hrd : rd_T41 ts 0 = t := by
    show ts.getD 0 _ = t
    rw [List.getD_eq_getElem?_getD, ht]; rfl
  have hlook := look_l2 (q0 := q0) xs ts [116] empty he (by omega) hk xs.length 0 (by omega)
  rw [← h.v, ← h.m] at hlook
  refine ew_up 2 hlook fun k => ?_
  show topiarylaw12_LexerWrites.j4 (k + 1 + 1) _ _ _ _ _ _ = _
  rw [topiarylaw12_LexerWrites.j4, bL_size, if_pos (by rw [List.length_append, List.length_append]; split <;> simp only [List.length_cons, List.length_nil] <;> omega), show (⟨#[62]⟩ : ByteArray) = bL [62] from rfl, bL_app, hd, hlex, Option.bind_some]
  have hw : wrap64 ((V.length : Int) + 2) = ((xs.length + 2 : Nat) : Int) := by rw [h.v, List.length_map]; unfold wrap64; omega
  show (if (0 : Int) = 0 then _ else _) = _
  rw [if_pos rfl, hw, if_pos (by show (ts.length : Int) = _; omega), if_pos (by show 0 < (ts.length : Int); omega)]
  show topiarylaw12_LexerWrites.j5 (k + 1) true V M ts ((rd_T41 ts 0).f3.toList != [116]) q0 q1 = _
  rw [hrd, Lib.toList_data, h2, topiarylaw12_LexerWrites.j5, if_neg (by decide)]; rfl
theorem loop_l1 (l0 : List Int) (l1 : List ByteArray) (hl0 : ∀ n, n ∈ l0 → 0 ≤ n ∧ n ≤ 255) (hS : ∀ c, c ∈ S → spaceB c = true) (hS1 : S.length ≤ 10) : ∀ (d j : Nat) (xs : List At) (X : List UInt8) (V M : List ByteArray), j + d = 6 → xs.length = j → St S xs X V M →
    EvW fun k => topiarylaw12_LexerWrites.l1 k l0 l1 true (bL S) (bL X) V M (j : Int) q0 q1 := by
  intro d
  induction d with
  | zero =>
    intro j xs X V M hd hj h
    exact loop_end j xs X V M (by omega) hj h (by omega)
  | succ d ih =>
    intro j xs X V M hd hj h
    by_cases c : j < l0.length ∧ j < l1.length
    · obtain ⟨c0, c1⟩ := c
      have hXl := h.len
      have hrd : rd l0 (j : Int) = l0[j] := by
        show l0.getD j 0 = _
        rw [List.getD_eq_getElem?_getD, List.getElem?_eq_getElem c0]; rfl
      obtain ⟨n0, n1⟩ := hl0 l0[j] (List.getElem_mem c0)
      obtain ⟨c, hc1, hc2⟩ := nm_of l0[j] n0 n1
      obtain ⟨t, ht, hts, -⟩ := short12 (rdOf ByteArray.empty l1 (j : Int)) 10
      obtain ⟨v, hv1, hv2, hv3⟩ : ∃ v, validL v = true ∧ v.length ≤ 10 ∧ ∀ k, 1000 ≤ k → (topiaryref11_Valid.f k t).bind (fun b => if b = true then topiarylaw12_LexerWrites.j3 k l0 l1 true (bL S) (bL X) V M (j : Int) (bL [110, c]) t q0 q1 else topiarylaw12_LexerWrites.j3 k l0 l1 true (bL S) (bL X) V M (j : Int) (bL [110, c]) (⟨#[118]⟩ : ByteArray) q0 q1) = topiarylaw12_LexerWrites.j3 k l0 l1 true (bL S) (bL X) V M (j : Int) (bL [110, c]) (bL v) q0 q1 := by
        by_cases hv : validL t.data.toList = true
        · exact ⟨t.data.toList, hv, by rw [← Lib.size_eq]; exact hts, fun k hk => by rw [val_k t k (by omega) hk, hv, Option.bind_some, if_pos rfl]; rfl⟩
        · exact ⟨[118], by decide, by decide, fun k hk => by rw [val_k t k (by omega) hk, Option.bind_some, if_neg hv]; rfl⟩
      have hVl : V.length ≤ 1000 := by rw [h.v, List.length_map]; omega
      have hMl : M.length ≤ 1000 := by rw [h.m, List.length_map]; omega
      have h3 : EvW fun k => topiarylaw12_LexerWrites.j3 k l0 l1 true (bL S) (bL X) V M (j : Int) (bL [110, c]) (bL v) q0 q1 := by
        have next : ∀ (q : UInt8) (w : List UInt8), (q = 34 ∨ q = 39) → (q = 39 → ¬ (39 : UInt8) ∈ w) → validL w = true → w.length ≤ 10 → EvW fun k => topiarylaw12_LexerWrites.l1 k l0 l1 true (bL S) (bL (X ++ (mkA S [110, c] q w).out)) (V ++ [bL w]) (M ++ [bL [110, c]]) ((j + 1 : Nat) : Int) q0 q1 := fun q w a1 a2 a3 a4 =>
          ih (j + 1) (xs ++ [mkA S [110, c] q w]) _ _ _ (by omega) (by rw [List.length_append, List.length_singleton, hj]) (h.add hS hc2 a1 a2 a3 hS1 (by simp) a4)
        have hat := fun k hk => j3_at (l0 := l0) (l1 := l1) (q0 := q0) (q1 := q1) (S := S) (X := X) (nm := [110, c]) (v := v) (V := V) (M := M) k j hk (by omega) (by omega) hS1 (by simp) hv2 hVl hMl
        by_cases m1 : j % 2 = 1
        · by_cases m2 : (39 : UInt8) ∈ v
          · exact ew_upK 1 1000 (next 39 [119] (.inr rfl) (fun _ => by decide) (by decide) (by decide)) fun k hk => by rw [hat k hk, if_pos m1, if_pos m2]
          · exact ew_upK 1 1000 (next 39 v (.inr rfl) (fun _ => m2) hv1 hv2) fun k hk => by rw [hat k hk, if_pos m1, if_neg m2]
        · exact ew_upK 1 1000 (next 34 v (.inl rfl) (fun e => absurd e (by decide)) hv1 hv2) fun k hk => by rw [hat k hk, if_neg m1]
      have h2 : EvW fun k => topiarylaw12_LexerWrites.j2 k l0 l1 true (bL S) (bL X) V M (j : Int) true q0 q1 := by
        refine ew_upK 1 1000 h3 fun k hk => ?_
        show topiarylaw12_LexerWrites.j2 (k + 1) _ _ _ _ _ _ _ _ _ _ _ = _
        rw [topiarylaw12_LexerWrites.j2, if_pos rfl, if_pos (by omega), if_pos (by omega), Option.bind_some, hrd, hc1, bL_size, if_pos (by simp), if_pos (by omega), show ((10 : Int)) = ((10 : Nat) : Int) from rfl, ht, Option.bind_some, show (⟨#[110]⟩ : ByteArray) ++ bL [c] = bL [110, c] from bL_app [110] [c]]
        exact hv3 k hk
      refine ew_up 1 h2 fun k => ?_
      show topiarylaw12_LexerWrites.l1 (k + 1) _ _ _ _ _ _ _ _ _ _ = _
      rw [topiarylaw12_LexerWrites.l1, if_pos (by omega), if_pos (by omega), decide_eq_true (by omega)]
    · exact loop_end j xs X V M (by omega) hj h (by omega)
where
  loop_end (j : Nat) (xs : List At) (X : List UInt8) (V M : List ByteArray) (hj6 : j ≤ 6) (hj : xs.length = j) (h : St S xs X V M) (hc : ¬ (j < l0.length ∧ j < l1.length ∧ j < 6)) : EvW fun k => topiarylaw12_LexerWrites.l1 k l0 l1 true (bL S) (bL X) V M (j : Int) q0 q1 := by
    have hXl := h.len
    have key : ∀ b, b = false → EvW fun k => topiarylaw12_LexerWrites.j2 k l0 l1 true (bL S) (bL X) V M (j : Int) b q0 q1 := by
      intro b hb
      subst hb
      by_cases e : Int.tmod q1 2 = 0
      · have := end_j4 (q0 := q0) xs X V M h hS hS1 (by omega) true ⟨fun _ => rfl, fun _ => e⟩
        refine ew_up 1 this fun k => ?_
        show topiarylaw12_LexerWrites.j2 (k + 1) _ _ _ _ _ _ _ _ _ _ _ = _
        rw [topiarylaw12_LexerWrites.j2, if_neg (by decide), bL_size, bL_size, if_pos (by omega), if_pos e, bL_app, bL_size, List.length_append, if_pos (by omega), show (⟨#[47]⟩ : ByteArray) = bL [47] from rfl, bL_app]; rfl
      · have := end_j4 (q0 := q0) xs X V M h hS hS1 (by omega) false ⟨fun e' => absurd e' e, fun e' => absurd e' (by decide)⟩
        refine ew_up 1 this fun k => ?_
        show topiarylaw12_LexerWrites.j2 (k + 1) _ _ _ _ _ _ _ _ _ _ _ = _
        rw [topiarylaw12_LexerWrites.j2, if_neg (by decide), bL_size, bL_size, if_pos (by omega), if_neg e, bL_app]
        simp
    by_cases c1 : (j : Int) < (l0.length : Int)
    · by_cases c2 : (j : Int) < (l1.length : Int)
      · refine ew_up 1 (key (decide ((j : Int) < 6)) (decide_eq_false (by omega))) fun k => ?_
        show topiarylaw12_LexerWrites.l1 (k + 1) _ _ _ _ _ _ _ _ _ _ = _
        rw [topiarylaw12_LexerWrites.l1, if_pos c1, if_pos c2]
      · refine ew_up 1 (key false rfl) fun k => ?_
        show topiarylaw12_LexerWrites.l1 (k + 1) _ _ _ _ _ _ _ _ _ _ = _
        rw [topiarylaw12_LexerWrites.l1, if_pos c1, if_neg c2]
    · refine ew_up 1 (key false rfl) fun k => ?_
      show topiarylaw12_LexerWrites.l1 (k + 1) _ _ _ _ _ _ _ _ _ _ = _
      rw [topiarylaw12_LexerWrites.l1, if_neg c1]
end
theorem space_at (j : Nat) (hj : j ≤ 2) : ∀ c, c ∈ ((⟨#[32, 10, 9]⟩ : ByteArray).extract j (j + 1)).data.toList → spaceB c = true := by
  intro c hc
  rw [Lib.extract_data] at hc
  have hm : c ∈ ([32, 10, 9] : List UInt8) := List.mem_of_mem_drop (List.mem_of_mem_take hc)
  revert hm
  simp only [List.mem_cons, List.not_mem_nil, or_false]
  rintro (rfl | rfl | rfl) <;> decide
theorem loop_l0 (l0 : List Int) (l1 : List ByteArray) (q0 q1 n : Int) (hn : n ≤ 3) (hl0 : ∀ n, n ∈ l0 → 0 ≤ n ∧ n ≤ 255) : ∀ (d j : Nat) (s : ByteArray), j + d = 3 → s.size ≤ j → (∀ c, c ∈ s.data.toList → spaceB c = true) →
    EvW fun k => topiarylaw12_LexerWrites.l0 k l0 l1 true s n (j : Int) q0 q1 := by
  have out : ∀ (j : Nat) (s : ByteArray), ¬ (j : Int) < n → s.size ≤ 10 → (∀ c, c ∈ s.data.toList → spaceB c = true) → EvW fun k => topiarylaw12_LexerWrites.l0 k l0 l1 true s n (j : Int) q0 q1 := by
    intro j s hj hs hsp
    have h := loop_l1 (q0 := q0) (q1 := q1) (S := s.data.toList) l0 l1 hl0 hsp (by rw [← Lib.size_eq]; exact hs) 6 0 [] [60, 116] [] [] rfl rfl ⟨(fun x hx => by cases hx), rfl, rfl, rfl, by decide⟩
    refine ew_up 1 h fun k => ?_
    show topiarylaw12_LexerWrites.l0 (k + 1) _ _ _ _ _ _ _ _ = _
    rw [topiarylaw12_LexerWrites.l0, if_neg hj]; rfl
  intro d
  induction d with
  | zero => intro j s hj hs hsp; exact out j s (by omega) (by omega) hsp
  | succ d ih =>
    intro j s hj hs hsp
    by_cases c : (j : Int) < n
    · have hsz : ((⟨#[32, 10, 9]⟩ : ByteArray).extract j (j + 1)).size ≤ 1 := by
        rw [Lib.size_eq, Lib.extract_data, List.length_take]; omega
      have h := ih (j + 1) (s ++ (⟨#[32, 10, 9]⟩ : ByteArray).extract j (j + 1)) (by omega) (by
        rw [Lib.size_eq, ByteArray.data_append, Array.toList_append, List.length_append, ← Lib.size_eq, ← Lib.size_eq]; omega) (fun x hx => by
        rw [ByteArray.data_append, Array.toList_append] at hx
        rcases List.mem_append.1 hx with hx | hx
        · exact hsp x hx
        · exact space_at j (by omega) x hx)
      refine ew_up 1 h fun k => ?_
      show topiarylaw12_LexerWrites.l0 (k + 1) _ _ _ _ _ _ _ _ = _
      rw [topiarylaw12_LexerWrites.l0, if_pos c, wrU j (by omega), if_pos (by omega), if_pos (by omega), if_pos (by omega), Int.toNat_natCast, Int.toNat_natCast, if_pos (by omega)]
    · exact out j s c (by omega) hsp
theorem LexerWrites (l0 : List Int) (l1 : List ByteArray) (q0 q1 : Int) (hl : ∀ n, n ∈ l0 → 0 ≤ n ∧ n ≤ 255) : ∃ k, topiarylaw12_LexerWrites.f k l0 l1 q0 q1 = some true := by
  have hn : Int.tmod q0 4 ≤ 3 := by
    have h1 := Int.tmod_lt_of_pos q0 (show (0 : Int) < 4 by decide)
    omega
  obtain ⟨K, hK⟩ := loop_l0 l0 l1 q0 q1 (Int.tmod q0 4) hn hl 3 0 ⟨#[]⟩ rfl (by decide) (fun c hc => by cases hc)
  refine ⟨K, ?_⟩
  unfold topiarylaw12_LexerWrites.f
  rw [awake12, Option.bind_some]
  exact hK K (Nat.le_refl _)
end Go.Proofs.Ytjlgenefjebcaaa.Pure
end
