/- Parts of the proof of canonParsed_holds, kept and merged by a program of mine (wip/tools/slim.py) out of my texts: P11d P11y LexG LexI LexJ ParV P12g -/
import Derived.Test.YtlhhhlimjajnlaaGreatSPd0
import Derived.Test.YtlhhhlimjajnlaaGreatSPd20
import Derived.Test.YtlhhhlimjajnlaaGreatSPd4
import Derived.Test.YtlhhhlimjajnlaaGreatSPd21
import Derived.Test.YtlhhhlimjajnlaaGreatSPd15
import Derived.Test.YtlhhhlimjajnlaaGreatSPd16
import Derived.Test.YtlhhhlimjajnlaaGreatSPd5
import Derived.Test.YtlhhhlimjajnlaaGreatSPd22
import Derived.Test.YtlhhhlimjajnlaaGreatSPd10
import Derived.Test.YtlhhhlimjajnlaaGreatSPd9
section
set_option linter.unusedVariables false
set_option linter.unusedSimpArgs false
namespace Go.Proofs.YtlhhhlimjajnlaaGreat.P11
open Go Go.RowKit Go.Proofs.YtlhhhlimjajnlaaGreat Go.Proofs.YtlhhhlimjajnlaaGreat.Q Go.Proofs.YtlhhhlimjajnlaaGreatW.PrintWords Go.Proofs.YtlhhhlimjajnlaaGreat.X Go.Proofs.YtlhhhlimjajnlaaGreat.RefE
def lessN (n : Nat) : Int := if n = 2 then 192 else if n = 3 then 224 else if n = 4 then 240 else 0
def codeGo : Int → List UInt8 → Int
 | c, [] => c
 | c, b :: t => codeGo (c * 64 + (b.toNat : Int) - 128) t
def refCode (n : Nat) : List UInt8 → Int
 | [] => 0
 | b :: t => codeGo ((b.toNat : Int) - lessN n) (t.take (n - 1))
theorem refCode_enc (c : Int) (hp : pointB c = true) (t : List UInt8) : refCode (sizeN c).toNat (encL c ++ t) = c := by
 have hb := point_range hp
 unfold encL sizeN
 rw [if_pos hp]
 by_cases h1 : c < 128
 ·rw [if_pos h1, if_pos h1]
  have e0 := byteI_nat c hb.1 (by omega)
  show codeGo ((byteI c).toNat - lessN 1) [] = c
  rw [codeGo, show lessN 1 = 0 from rfl]; omega
 rw [if_neg h1, if_neg h1]
 by_cases h2 : c < 2048
 ·rw [if_pos h2, if_pos h2]
  have e0 := byteI_nat (192 + c / 64) (by omega) (by omega)
  have e1 := byteI_nat (128 + c % 64) (by omega) (by omega)
  show codeGo ((byteI (192 + c / 64)).toNat - lessN 2) [byteI (128 + c % 64)] = c
  rw [codeGo, codeGo, show lessN 2 = 192 from rfl]; omega
 rw [if_neg h2, if_neg h2]
 by_cases h3 : c < 65536
 ·rw [if_pos h3, if_pos h3]
  have e0 := byteI_nat (224 + c / 4096) (by omega) (by omega)
  have e1 := byteI_nat (128 + c / 64 % 64) (by omega) (by omega)
  have e2 := byteI_nat (128 + c % 64) (by omega) (by omega)
  show codeGo ((byteI (224 + c / 4096)).toNat - lessN 3) [byteI (128 + c / 64 % 64), byteI (128 + c % 64)] = c
  rw [codeGo, codeGo, codeGo, show lessN 3 = 224 from rfl]; omega
 rw [if_neg h3, if_neg h3]
 have e0 := byteI_nat (240 + c / 262144) (by omega) (by omega)
 have e1 := byteI_nat (128 + c / 4096 % 64) (by omega) (by omega)
 have e2 := byteI_nat (128 + c / 64 % 64) (by omega) (by omega)
 have e3 := byteI_nat (128 + c % 64) (by omega) (by omega)
 show codeGo ((byteI (240 + c / 262144)).toNat - lessN 4) [byteI (128 + c / 4096 % 64), byteI (128 + c / 64 % 64), byteI (128 + c % 64)] = c
 rw [codeGo, codeGo, codeGo, codeGo, show lessN 4 = 240 from rfl]; omega
def tryN (n : Nat) (l : List UInt8) : Bool := decide (encL (refCode n l) ≠ []) && (encL (refCode n l) == l.take n)
theorem try_yes (n : Nat) (l : List UInt8) (hn : n ≤ l.length) (h : tryN n l = true) : decL l = (refCode n l, (n : Int)) := by
 unfold tryN at h
 simp only [Bool.and_eq_true, decide_eq_true_eq, beq_iff_eq] at h
 obtain ⟨h1, h2⟩ := h
 have hp : pointB (refCode n l) = true := by
  by_cases hp : pointB (refCode n l) = true
  ·exact hp
  ·exact absurd ((enc_nil _).2 (by simpa using hp)) h1
 have hl := enc_len _ hp
 have hd := dec_enc _ hp (l.drop n)
 rw [h2, List.take_append_drop] at hd
 rw [hd]
 congr 1
 rw [← hl, h2, List.length_take]
 omega
theorem try_at (l : List UInt8) (h : ¬ (decL l).2 = 0) : tryN (decL l).2.toNat l = true ∧ 1 ≤ (decL l).2.toNat ∧ (decL l).2.toNat ≤ 4 ∧ (decL l).2.toNat ≤ l.length := by
 obtain ⟨hp, hs, t, ht⟩ := enc_dec l h
 have hr := dec_range l
 have hl := enc_len _ hp
 refine ⟨?_, by omega, by omega, by omega⟩
 have hc : refCode (decL l).2.toNat l = (decL l).1 := by
  have := refCode_enc _ hp t
  rw [← ht, ← hs] at this
  exact this
 unfold tryN
 rw [hc]
 simp only [Bool.and_eq_true, decide_eq_true_eq, beq_iff_eq]
 refine ⟨fun e => ?_, ?_⟩
 ·rw [e] at hl
  have := sizeN_range (decL l).1
  simp at hl; omega
 ·have : l.take (decL l).2.toNat = (encL (decL l).1 ++ t).take (decL l).2.toNat := by rw [← ht]
  rw [this, hs, ← hl, Int.toNat_natCast, List.take_left]
def triesFrom (l : List UInt8) : Nat → Nat → Int × Int
 | 0, _ => (-1, 0)
 | d + 1, n => if n ≤ l.length then (if tryN n l then (refCode n l, (n : Int)) else triesFrom l d (n + 1)) else (-1, 0)
theorem tries_eq (l : List UInt8) : triesFrom l 4 1 = decL l := by
 have hno : ∀ d n, n + d = 5 → (∀ m, 1 ≤ m → m < n → tryN m l = true → ¬ m ≤ l.length) → triesFrom l d n = decL l := by
  intro d
  induction d with
  | zero =>
   intro n hn h
   rw [triesFrom]
   by_cases h0 : (decL l).2 = 0
   ·exact (dec_none l h0).symm
   ·obtain ⟨a, b, c, e⟩ := try_at l h0
    exact absurd e (h _ b (by omega) a)
  | succ d ih =>
   intro n hn h
   rw [triesFrom]
   by_cases hl : n ≤ l.length
   ·rw [if_pos hl]
    by_cases ht : tryN n l = true
    ·rw [if_pos ht]
     exact (try_yes n l hl ht).symm
    ·rw [if_neg ht]
     refine ih (n + 1) (by omega) fun m h1 h2 h3 => ?_
     by_cases hm : m = n
     ·subst hm; exact absurd h3 ht
     ·exact h m h1 (by omega) h3
   ·rw [if_neg hl]
    by_cases h0 : (decL l).2 = 0
    ·exact (dec_none l h0).symm
    ·obtain ⟨a, b, c, e⟩ := try_at l h0
     by_cases hm : (decL l).2.toNat < n
     ·exact absurd e (h _ b hm a)
     ·omega
 exact hno 4 1 rfl fun m h1 h2 => by omega
theorem code_bound : ∀ (t : List UInt8) (c : Int), t.length ≤ 3 → -1000 ≤ c → c ≤ 1000 → -300000000 ≤ codeGo c t ∧ codeGo c t ≤ 300000000 := by
 intro t c h h0 h1
 match t, h with
 | [], _ => rw [codeGo]; omega
 | [x], _ => have := x.toNat_lt; rw [codeGo, codeGo]; omega
 | [x, y], _ => have := x.toNat_lt; have := y.toNat_lt; rw [codeGo, codeGo, codeGo]; omega
 | [x, y, z], _ => have := x.toNat_lt; have := y.toNat_lt; have := z.toNat_lt; rw [codeGo, codeGo, codeGo, codeGo]; omega
def endOf (k : Nat) (s : ByteArray) (a n : Nat) (code : Int) : Option (Int × Int) :=
 if encL code = [] then R1_Rune.l0 k s a ((n : Int) + 1) else if encL code = (s.data.toList.drop a).take n then some (code, (n : Int)) else R1_Rune.l0 k s a ((n : Int) + 1)
theorem rune_l1 (s : ByteArray) (a n : Nat) (hs : s.size ≤ 4294967296) (hn : n ≤ 4) (ha : a + n ≤ s.size) (d : Nat) : ∀ (i k : Nat) (c : Int), i + d = n → 1 ≤ i → i ≤ 4 → -300000000 ≤ c → c ≤ 300000000 →
 (∀ j, j ≤ d → -300000000 ≤ codeGo c ((s.data.toList.drop (a + i)).take j) ∧ codeGo c ((s.data.toList.drop (a + i)).take j) ≤ 300000000) →
 R1_Rune.l1 (k + d + 1) s a n c i = endOf k s a n (codeGo c ((s.data.toList.drop (a + i)).take d)) := by
 induction d with
 | zero =>
  intro i k c hi h1 h4 hc0 hc1 hall
  rw [R1_Rune.l1, if_neg (by omega), encode_f, Option.bind_some, List.take_zero, codeGo, Lib.toList_data]
  unfold endOf
  have hdat : (⟨(encL c).toArray⟩ : ByteArray).data.toList = encL c := rfl
  rw [hdat, wr ((n : Int) + 1) (by omega) (by omega)]
  by_cases he : encL c = []
  ·rw [if_pos he, if_pos he]
  rw [if_neg he, if_neg he, if_pos (by omega), wr ((a : Int) + (n : Int)) (by omega) (by omega), if_pos (by omega), if_pos (by omega), Lib.extract_toList, Int.toNat_natCast, show ((a : Int) + (n : Int)).toNat - a = n from by omega]
 | succ d ih =>
  intro i k c hi h1 h4 hc0 hc1 hall
  have hlt : a + i < s.size := by omega
  rw [show k + (d + 1) + 1 = (k + d + 1) + 1 from by omega, R1_Rune.l1, if_pos (by omega)]
  have hw : wrap64 ((a : Int) + (i : Int)) = ((a + i : Nat) : Int) := by rw [wr _ (by omega) (by omega)]; omega
  rw [hw, if_pos (by omega), if_pos (by omega), if_neg (by omega), bt_get s _ hlt, drop_cons s _ hlt, List.take_succ_cons, codeGo]
  obtain ⟨x, hx⟩ : ∃ x, s[a + i] = x := ⟨_, rfl⟩
  rw [hx]
  have hxl := x.toNat_lt
  have hall' : ∀ j, j ≤ d → -300000000 ≤ codeGo (c * 64 + (x.toNat : Int) - 128) ((s.data.toList.drop (a + i + 1)).take j) ∧ codeGo (c * 64 + (x.toNat : Int) - 128) ((s.data.toList.drop (a + i + 1)).take j) ≤ 300000000 := by
   intro j hj
   have := hall (j + 1) (by omega)
   rw [drop_cons s _ hlt, List.take_succ_cons, codeGo, hx] at this
   exact this
  have h0 := hall' 0 (by omega)
  rw [List.take_zero, codeGo] at h0
  rw [wr (c * 64) (by omega) (by omega), wr (x.toNat : Int) (by omega) (by omega), wr (c * 64 + (x.toNat : Int)) (by omega) (by omega), wr (c * 64 + (x.toNat : Int) - 128) (by omega) (by omega), wr ((i : Int) + 1) (by omega) (by omega)]
  have := ih (i + 1) k (c * 64 + (x.toNat : Int) - 128) (by omega) (by omega) (by omega) h0.1 h0.2 hall'
  rw [show ((i + 1 : Nat) : Int) = (i : Int) + 1 from by omega, show a + (i + 1) = a + i + 1 from by omega] at this
  exact this
theorem rune_try (s : ByteArray) (a n : Nat) (hs : s.size ≤ 4294967296) (h1 : 1 ≤ n) (hn : n ≤ 4) (ha : a + n ≤ s.size) (k : Nat) :
 R1_Rune.l1 (k + n + 2) s a n 0 0 = endOf k s a n (refCode n (s.data.toList.drop a)) := by
 have hlt : a < s.size := by omega
 rw [R1_Rune.l1, if_pos (by omega)]
 have hw : wrap64 ((a : Int) + 0) = (a : Int) := by rw [wr _ (by omega) (by omega)]; omega
 rw [hw, if_pos (by omega), if_pos (by omega), if_pos rfl, bt_get s _ hlt, drop_cons s _ hlt]
 obtain ⟨x, hx⟩ : ∃ x, s[a] = x := ⟨_, rfl⟩
 rw [hx]
 have hxl := x.toNat_lt
 rw [wr (x.toNat : Int) (by omega) (by omega)]
 have hless : 0 ≤ lessN n ∧ lessN n ≤ 240 := by unfold lessN; repeat' split <;> omega
 have hj : ∀ y : Int, (n ≠ 3 → n ≠ 4 → y = lessN n) → R1_Rune.j4 (k + n + 1) s a n 0 (x.toNat : Int) y = R1_Rune.l1 (k + n) s a n ((x.toNat : Int) - lessN n) 1 := by
  intro y hy
  rw [R1_Rune.j4]
  by_cases h3 : n = 3
  ·subst h3
   rw [if_pos (by omega), if_neg (by omega), wr _ (by omega) (by omega), wr _ (by omega) (by omega)]
   rfl
  ·rw [if_neg (by omega)]
   by_cases h4 : n = 4
   ·subst h4
    rw [if_pos (by omega), wr _ (by omega) (by omega), wr _ (by omega) (by omega)]
    rfl
   ·rw [if_neg (by omega), hy h3 h4, wr _ (by omega) (by omega), wr _ (by omega) (by omega)]
    rfl
 have hfin : R1_Rune.l1 (k + n) s a n ((x.toNat : Int) - lessN n) 1 = endOf k s a n (refCode n (x :: s.data.toList.drop (a + 1))) := by
  have hb : ∀ j, j ≤ n - 1 → -300000000 ≤ codeGo ((x.toNat : Int) - lessN n) ((s.data.toList.drop (a + 1)).take j) ∧ codeGo ((x.toNat : Int) - lessN n) ((s.data.toList.drop (a + 1)).take j) ≤ 300000000 :=
   fun j hj => code_bound _ _ (by rw [List.length_take]; omega) (by omega) (by omega)
  have := rune_l1 s a n hs hn ha (n - 1) 1 k ((x.toNat : Int) - lessN n) (by omega) (by omega) (by omega) (by omega) (by omega) hb
  rw [show k + (n - 1) + 1 = k + n from by omega] at this
  exact this
 by_cases h2 : n = 2
 ·subst h2
  rw [if_pos (by rfl), hj 192 (fun _ _ => rfl), hfin]
 ·rw [if_neg (by omega), hj 0 (fun h3 h4 => by unfold lessN; rw [if_neg h2, if_neg h3, if_neg h4]), hfin]
theorem rune_l0 (s : ByteArray) (a : Nat) (hs : s.size ≤ 4294967296) (ha : a < s.size) (d : Nat) : ∀ (n k : Nat), n + d = 5 → 1 ≤ n → 10 * d + 2 ≤ k →
 R1_Rune.l0 k s a n = some (triesFrom (s.data.toList.drop a) d n) := by
 have hlen : (s.data.toList.drop a).length = s.size - a := by rw [List.length_drop, len_data]
 induction d with
 | zero =>
  intro n k hn h1 hk
  obtain ⟨k, rfl⟩ : ∃ m, k = m + 2 := ⟨k - 2, by omega⟩
  rw [R1_Rune.l0, if_neg (by omega), R1_Rune.j2, if_neg (by decide), triesFrom]
 | succ d ih =>
  intro n k hn h1 hk
  obtain ⟨k, rfl⟩ : ∃ m, k = m + n + 4 := ⟨k - n - 4, by omega⟩
  rw [R1_Rune.l0, if_pos (by omega), wr ((s.size : Int) - (a : Int)) (by omega) (by omega), triesFrom]
  by_cases hl : n ≤ (s.data.toList.drop a).length
  ·rw [if_pos hl, show decide ((n : Int) ≤ (s.size : Int) - (a : Int)) = true from by simp; omega, R1_Rune.j2, if_pos rfl, rune_try s a n hs h1 (by omega) (by omega)]
   unfold endOf
   have hr := ih (n + 1) k (by omega) (by omega) (by omega)
   rw [show ((n + 1 : Nat) : Int) = (n : Int) + 1 from by omega] at hr
   by_cases he : encL (refCode n (s.data.toList.drop a)) = []
   ·have ht : tryN n (s.data.toList.drop a) = false := by unfold tryN; simp [he]
    rw [if_pos he, ht, hr]; rfl
   ·rw [if_neg he]
    by_cases he2 : encL (refCode n (s.data.toList.drop a)) = (s.data.toList.drop a).take n
    ·have ht : tryN n (s.data.toList.drop a) = true := by unfold tryN; simp [he, ← he2]
     rw [if_pos he2, ht]; rfl
    ·have ht : tryN n (s.data.toList.drop a) = false := by unfold tryN; simp [he2]
     rw [if_neg he2, ht, hr]; rfl
  ·rw [if_neg hl, show decide ((n : Int) ≤ (s.size : Int) - (a : Int)) = false from by simp; omega, R1_Rune.j2, if_neg (by decide)]
theorem ref_rune_f (s : ByteArray) (a : Int) (hs : s.size ≤ 4294967296) (k : Nat) : R1_Rune.f (k + 43) s a = some (runeP s.data.toList a) := by
 have hl := len_data s
 unfold R1_Rune.f runeP
 by_cases h0 : a < 0
 ·rw [if_pos h0, R1_Rune.j0, if_pos rfl, if_neg (by omega)]
 rw [if_neg h0]
 by_cases h1 : a ≥ (s.size : Int)
 ·rw [show decide (a ≥ (s.size : Int)) = true from by simpa using h1, R1_Rune.j0, if_pos rfl, if_neg (by omega)]
 ·obtain ⟨n, rfl⟩ := Int.eq_ofNat_of_zero_le (by omega : 0 ≤ a)
  rw [show decide ((n : Int) ≥ (s.size : Int)) = false from by simpa using h1, R1_Rune.j0, if_neg (by decide), if_pos (by omega), Int.toNat_natCast]
  have := rune_l0 s n hs (by omega) 4 1 (k + 42) rfl (by omega) (by omega)
  rw [tries_eq] at this
  exact this
theorem ref_valid_l0 (s : ByteArray) (hs : s.size ≤ 4294967296) (d : Nat) : ∀ (n k : Nat), s.size - n = d → n ≤ s.size → d + 50 ≤ k → R1_Valid.l0 k s n = some (validL (s.data.toList.drop n)) := by
 induction d using Nat.strongRecOn with
 | ind d ih =>
  intro n k hd hn hk
  obtain ⟨k, rfl⟩ : ∃ m, k = m + 1 := ⟨k - 1, by omega⟩
  rw [R1_Valid.l0]
  by_cases hlt : n < s.size
  ·rw [if_pos (by omega), show k = (k - 43) + 43 from by omega, ref_rune_f s n hs, Option.bind_some, allowed_f, Option.bind_some, valid_at s n hlt]
   have hp : runeP s.data.toList (n : Int) = decL (s.data.toList.drop n) := by
    unfold runeP
    rw [if_pos ⟨by omega, by rw [len_data]; omega⟩, Int.toNat_natCast]
   have hr := dec_range (s.data.toList.drop n)
   rw [← hp, List.length_drop, len_data] at hr
   by_cases h0 : (runeP s.data.toList (n : Int)).2 = 0
   ·rw [if_pos h0, h0]; rfl
   ·rw [if_neg h0, show decide (0 < (runeP s.data.toList (n : Int)).2) = true from by simp; omega, Bool.true_and]
    by_cases ha : allowedB (runeP s.data.toList (n : Int)).1 = true
    ·rw [if_pos ha, ha, Bool.true_and, wr _ (by omega) (by omega), show (n : Int) + (runeP s.data.toList (n : Int)).2 = ((n + (runeP s.data.toList (n : Int)).2.toNat : Nat) : Int) from by omega]
     exact ih _ (by omega) _ _ rfl (by omega) (by omega)
    ·rw [if_neg ha, show allowedB (runeP s.data.toList (n : Int)).1 = false from by simpa using ha]; rfl
  ·rw [if_neg (by omega), List.drop_of_length_le (by rw [len_data]; omega)]; rfl
theorem ref_valid_f (s : ByteArray) (hs : s.size ≤ 4294967296) (k : Nat) : R1_Valid.f (s.size + 50 + k) s = some (validL s.data.toList) :=
 ref_valid_l0 s hs s.size 0 _ (by omega) (by omega) (by omega)
theorem nat_of_bt (s : ByteArray) (n : Nat) (h : n < s.size) (c : UInt8) (hc : s[n] = c) : bt s (n : Int) = (c.toNat : Int) := by rw [bt_get s n h, hc]
theorem ref_space_f (c : UInt8) : R1_Space.f (c.toNat : Int) = some (spaceB c) := by
 unfold R1_Space.f spaceB
 repeat' split
 all_goals
  congr 1
  rw [Bool.eq_iff_iff]
  simp
  omega
theorem ref_skip_l0 (s : ByteArray) (hs : s.size ≤ 4294967296) (d : Nat) : ∀ (n k : Nat), s.size - n = d → n ≤ s.size → 2 * d + 2 ≤ k → R1_Skip.l0 k s n = some ((n : Int) + ((s.data.toList.drop n).takeWhile spaceB).length) := by
 induction d with
 | zero =>
  intro n k hd hn hk
  obtain ⟨k, rfl⟩ : ∃ m, k = m + 2 := ⟨k - 2, by omega⟩
  rw [R1_Skip.l0, if_pos (by omega), show decide ((n : Int) < (s.size : Int)) = false from by simp; omega, R1_Skip.j1, if_neg (by decide), List.drop_of_length_le (by rw [len_data]; omega)]
  simp
 | succ d ih =>
  intro n k hd hn hk
  obtain ⟨k, rfl⟩ : ∃ m, k = m + 2 := ⟨k - 2, by omega⟩
  have hlt : n < s.size := by omega
  rw [R1_Skip.l0, if_pos (by omega), show decide ((n : Int) < (s.size : Int)) = true from by simp; omega, R1_Skip.j1, if_pos rfl, if_pos (by omega), if_pos (by omega), drop_cons s n hlt]
  obtain ⟨c, hc⟩ : ∃ c, s[n] = c := ⟨_, rfl⟩
  rw [nat_of_bt s n hlt c hc, ref_space_f, Option.bind_some, hc]
  by_cases h : spaceB c = true
  ·rw [if_pos h, List.takeWhile_cons_of_pos h, wr _ (by omega) (by omega)]
   have := ih (n + 1) k (by omega) (by omega) (by omega)
   rw [show ((n + 1 : Nat) : Int) = (n : Int) + 1 from by omega] at this
   rw [this, List.length_cons]
   congr 1
   omega
  ·rw [if_neg h, List.takeWhile_cons_of_neg h]
   simp
theorem ref_skip_f (s : ByteArray) (a : Int) (hs : s.size ≤ 4294967296) (k : Nat) : R1_Skip.f (2 * s.size + 2 + k) s a = some (skipP s.data.toList a) := by
 unfold R1_Skip.f skipP
 have hl := len_data s
 by_cases h0 : 0 ≤ a ∧ a ≤ s.size
 ·obtain ⟨n, rfl⟩ := Int.eq_ofNat_of_zero_le h0.1
  rw [ref_skip_l0 s hs (s.size - n) n _ rfl (by omega) (by omega), Int.toNat_natCast]
  by_cases h1 : (n : Int) < (s.data.toList.length : Int)
  ·rw [if_pos ⟨h0.1, h1⟩]
  ·rw [if_neg (fun h => h1 h.2), List.drop_of_length_le (by omega)]
   simp
 ·rw [if_neg (by omega)]
  rw [show 2 * s.size + 2 + k = (2 * s.size + k) + 2 from by omega, R1_Skip.l0]
  by_cases h2 : a ≥ 0
  ·rw [if_pos h2, show decide (a < (s.size : Int)) = false from by simp; omega, R1_Skip.j1, if_neg (by decide)]
  ·rw [if_neg h2, R1_Skip.j1, if_neg (by decide)]
set_option maxHeartbeats 4000000 in
theorem ref_name_step (s : ByteArray) (a : Int) (n : Nat) (hs : s.size ≤ 4294967296) (hlt : n < s.size) (c : UInt8) (hc : s[n] = c) (k : Nat) :
 R1_NameEnd.l0 (k + 2) s a n = if nameB c = true ∨ (moreB c = true ∧ (n : Int) ≠ a) then R1_NameEnd.l0 k s a ((n + 1 : Nat) : Int) else some (n : Int) := by
 have hw : wrap64 ((n : Int) + 1) = ((n + 1 : Nat) : Int) := by rw [wr _ (by omega) (by omega)]; omega
 rw [R1_NameEnd.l0, if_pos (by omega), show decide ((n : Int) < (s.size : Int)) = true from by simp; omega, R1_NameEnd.j1, if_pos rfl, if_pos (by omega), if_pos (by omega), nat_of_bt s n hlt c hc, hw]
 have hcl := c.toNat_lt
 unfold nameB moreB
 simp only [decide_eq_true_eq]
 generalize R1_NameEnd.l0 k s a ((n + 1 : Nat) : Int) = A
 generalize c.toNat = v at *
 clear hw hc hs hlt
 repeat' (first | (exfalso; omega) | split)
 all_goals rfl
theorem ref_name_l0 (s : ByteArray) (a : Int) (hs : s.size ≤ 4294967296) (d : Nat) : ∀ (n k : Nat), s.size - n = d → n ≤ s.size → a < n → 2 * d + 2 ≤ k → R1_NameEnd.l0 k s a n = some ((n : Int) + ((s.data.toList.drop n).takeWhile fun c => nameB c || moreB c).length) := by
 induction d with
 | zero =>
  intro n k hd hn ha hk
  obtain ⟨k, rfl⟩ : ∃ m, k = m + 2 := ⟨k - 2, by omega⟩
  rw [R1_NameEnd.l0, if_pos (by omega), show decide ((n : Int) < (s.size : Int)) = false from by simp; omega, R1_NameEnd.j1, if_neg (by decide), List.drop_of_length_le (by rw [len_data]; omega)]
  simp
 | succ d ih =>
  intro n k hd hn ha hk
  obtain ⟨k, rfl⟩ : ∃ m, k = m + 2 := ⟨k - 2, by omega⟩
  have hlt : n < s.size := by omega
  obtain ⟨c, hc⟩ : ∃ c, s[n] = c := ⟨_, rfl⟩
  rw [ref_name_step s a n hs hlt c hc, drop_cons s n hlt, hc]
  by_cases h : (nameB c || moreB c) = true
  ·rw [List.takeWhile_cons_of_pos (p := fun c => nameB c || moreB c) h, if_pos (by
    simp only [Bool.or_eq_true] at h
    exact h.imp_right fun h => ⟨h, by omega⟩), ih (n + 1) k (by omega) (by omega) (by omega) (by omega), List.length_cons]
   congr 1
   omega
  ·rw [List.takeWhile_cons_of_neg (p := fun c => nameB c || moreB c) h, if_neg (fun h' => h (by
    simp only [Bool.or_eq_true]
    exact h'.imp_right fun h => h.1))]
   simp
theorem ref_name_f (s : ByteArray) (a : Int) (hs : s.size ≤ 4294967296) (k : Nat) : R1_NameEnd.f (2 * s.size + 2 + k) s a = some (nameEndP s.data.toList a) := by
 unfold R1_NameEnd.f nameEndP
 have hl := len_data s
 by_cases h0 : 0 ≤ a ∧ a < s.size
 ·obtain ⟨n, rfl⟩ := Int.eq_ofNat_of_zero_le h0.1
  have hlt : n < s.size := by omega
  obtain ⟨c, hc⟩ : ∃ c, s[n] = c := ⟨_, rfl⟩
  rw [if_pos ⟨h0.1, by omega⟩, Int.toNat_natCast, show 2 * s.size + 2 + k = (2 * s.size + k) + 2 from by omega, ref_name_step s n n hs hlt c hc, drop_cons s n hlt, hc]
  simp only [nameLen]
  by_cases hn : nameB c = true
  ·rw [if_pos (.inl hn), if_pos hn, ref_name_l0 s n hs (s.size - (n + 1)) (n + 1) _ rfl (by omega) (by omega) (by omega)]
   congr 1
   omega
  ·rw [if_neg (by simp [hn]), if_neg hn]
   simp
 ·rw [if_neg (by omega), show 2 * s.size + 2 + k = (2 * s.size + k) + 2 from by omega, R1_NameEnd.l0]
  by_cases h2 : a ≥ 0
  ·rw [if_pos h2, show decide (a < (s.size : Int)) = false from by simp; omega, R1_NameEnd.j1, if_neg (by decide)]
  ·rw [if_neg h2, R1_NameEnd.j1, if_neg (by decide)]
theorem name_f (s : ByteArray) (hs : s.size ≤ 4294967296) : chars_Name.f s = some (if s.data.toList = [] then false else nameEndP s.data.toList 0 == (s.size : Int)) := by
 unfold chars_Name.f
 rw [Lib.toList_data]
 by_cases h : s.data.toList = []
 ·rw [if_pos h, if_pos h]
 ·rw [if_neg h, if_neg h, chars_NameEnd.f, if_pos hs]; rfl
end Go.Proofs.YtlhhhlimjajnlaaGreat.P11
end
section
set_option linter.unusedVariables false
set_option linter.unusedSimpArgs false
namespace Go.Proofs.YtlhhhlimjajnlaaGreat.X
open Go.RowKit Go.Proofs.YtlhhhlimjajnlaaGreat Go.Proofs.YtlhhhlimjajnlaaGreat.Q Go.Proofs.YtlhhhlimjajnlaaGreat.P11 Go.Proofs.YtlhhhlimjajnlaaGreatW.PrintWords Go.Proofs.YtlhhhlimjajnlaaGreatW.PrintLast Go.Proofs.YtlhhhlimjajnlaaGreatW.PrintMore
variable {w0 W : World} {g : Nat} {d : ByteArray} {a : Int} {ts : List Tok} {x : Bool}
def attrsF (d : ByteArray) : Nat → Int → List Tok → Option (List Tok × Int)
 | 0, _, _ => none
 | n + 1, a, acc =>
  if standsB d (skipP d.data.toList a) ⟨#[62]⟩ = true then some (acc ++ [⟨3, skipP d.data.toList a, skipP d.data.toList a + 1, ⟨#[]⟩, ⟨#[]⟩⟩], skipP d.data.toList a + 1)
  else if standsB d (skipP d.data.toList a) ⟨#[47, 62]⟩ = true then some (acc ++ [⟨4, skipP d.data.toList a, skipP d.data.toList a + 2, ⟨#[]⟩, ⟨#[]⟩⟩], skipP d.data.toList a + 2)
  else match attrP d a with
   | some (new, a') => attrsF d n a' (acc ++ new)
   | none => none
def tagP (d : ByteArray) (a : Int) : Option (List Tok × Int) :=
 let E := nameEndP d.data.toList (a + 1)
 if E = a + 1 then none else attrsF d (d.size + 1) E [⟨1, a, E, partB d (a + 1) E, ⟨#[]⟩⟩]
theorem stands_room2 (d : ByteArray) (i : Int) (s : ByteArray) (h0 : 0 ≤ i) (hs : 0 < s.size) (h : standsB d i s = true) : i + s.size ≤ (d.size : Int) := by
 unfold standsB Lib.hasPrefix at h
 obtain ⟨t, ht⟩ := List.isPrefixOf_iff_prefix.1 h
 have := congrArg List.length ht
 rw [List.length_append, List.length_drop] at this
 rw [Lib.size_eq d, Lib.size_eq s]
 rw [Lib.size_eq s] at hs
 omega
theorem attr_room (d : ByteArray) (a : Int) (h0 : 0 ≤ a) (h1 : a ≤ (d.size : Int)) (new : List Tok) (a' : Int) (h : attrP d a = some (new, a')) : a < a' ∧ a' ≤ (d.size : Int) ∧ new.length = 1 := by
 have hsz : d.data.toList.length = d.size := (Lib.size_eq d).symm
 unfold attrP at h
 obtain ⟨F, hF⟩ : ∃ F, skipP d.data.toList a = F := ⟨_, rfl⟩
 obtain ⟨E, hE⟩ : ∃ E, nameEndP d.data.toList F = E := ⟨_, rfl⟩
 obtain ⟨Q, hQ⟩ : ∃ Q, skipP d.data.toList E = Q := ⟨_, rfl⟩
 obtain ⟨O, hO⟩ : ∃ O, skipP d.data.toList (Q + 1) = O := ⟨_, rfl⟩
 simp only [hF, hE, hQ, hO] at h
 have hF1 := skipP_in d.data.toList a (by omega) (by omega)
 rw [hF] at hF1
 have hE1 := nameEndP_in d.data.toList F (by omega) (by omega)
 rw [hE] at hE1
 have hQ1 := skipP_in d.data.toList E (by omega) (by omega)
 rw [hQ] at hQ1
 by_cases c1 : F = a
 ·rw [if_pos c1] at h; cases h
 rw [if_neg c1] at h
 by_cases c2 : E = F
 ·rw [if_pos c2] at h; cases h
 rw [if_neg c2] at h
 by_cases c3 : standsB d Q ⟨#[61]⟩ = false
 ·rw [if_pos c3] at h; cases h
 rw [if_neg c3] at h
 have hr1 := stands_room d Q 61 (by omega) (by simpa using c3)
 have hO1 := skipP_in d.data.toList (Q + 1) (by omega) (by omega)
 rw [hO] at hO1
 by_cases c4 : standsB d O ⟨#[34]⟩ = false ∧ standsB d O ⟨#[39]⟩ = false
 ·rw [if_pos c4] at h; cases h
 rw [if_neg c4] at h
 have hr2 : O < (d.size : Int) := by
  by_cases c : standsB d O ⟨#[34]⟩ = true
  ·exact stands_room d O 34 (by omega) c
  ·by_cases c' : standsB d O ⟨#[39]⟩ = true
   ·exact stands_room d O 39 (by omega) c'
   ·exact absurd ⟨by simpa using c, by simpa using c'⟩ c4
 have hsep : (partB d O (O + 1)).data.toList.length = 1 := by
  unfold partB
  rw [Lib.extract_data, List.length_take, List.length_drop]; omega
 obtain ⟨s, hs⟩ : ∃ s, (partB d O (O + 1)).data.toList = s := ⟨_, rfl⟩
 rw [hs] at h hsep
 by_cases c5 : (Lib.cut (d.data.toList.drop (O + 1).toNat) s).2.2 = false
 ·rw [if_pos c5] at h; cases h
 rw [if_neg c5] at h
 by_cases c6 : 0 ≤ Lib.indexByte (Lib.cut (d.data.toList.drop (O + 1).toNat) s).1 60
 ·rw [if_pos c6] at h; cases h
 rw [if_neg c6] at h
 have hcl : ((Lib.cut (d.data.toList.drop (O + 1).toNat) s).1.length : Int) + 1 ≤ ((d.data.toList.drop (O + 1).toNat).length : Int) := by
  unfold Lib.cut at c5 ⊢
  by_cases ci : 0 ≤ Lib.index (d.data.toList.drop (O + 1).toNat) s
  ·rw [if_pos ci]
   have := Lib.index_room _ _ ci
   rw [List.length_take]; omega
  ·rw [if_neg ci] at c5; exact absurd rfl c5
 rw [List.length_drop] at hcl
 cases hd : dec (Lib.cut (d.data.toList.drop (O + 1).toNat) s).1 with
 | none => rw [hd] at h; cases h
 | some v =>
  rw [hd] at h
  injection h with h
  injection h with h2 h3
  subst h3 h2
  refine ⟨by omega, by omega, rfl⟩
def ahead (d : ByteArray) (g : Nat) (w : World) : Nat := match w.cell? ⟨g, 1, none⟩, w.cell? ⟨g, 3, none⟩ with
 | some (.int _ a), some (.bool x) => if x then 0 else ((d.size : Int) - a).toNat + 1
 | _, _ => 0
theorem Rd.ahead_ (h : Rd w0 W g d a ts x) : ahead d g W = if x then 0 else ((d.size : Int) - a).toNat + 1 := by
 unfold ahead
 rw [h.c1, h.c3]
def TagRel (d : ByteArray) (P : Option (List Tok × Int)) (a : Int) (acc : List Tok) : Prop :=
 0 ≤ a ∧ a ≤ (d.size : Int) ∧ (acc.length : Int) ≤ a ∧ ∃ n : Nat, (d.size : Int) - a < n ∧ P = attrsF d n a acc
set_option maxHeartbeats 16000000 in
set_option maxRecDepth 100000 in
theorem tag_c (w : World) (h : Rd w0 w g d a ts false) (hG : G w0) (hl : ts.length ≤ 100000) (hs : d.size ≤ 800000) (h0 : 0 ≤ a) (h4 : a + 1 ≤ (d.size : Int)) :
 Calls Tryz.prog 82 #[.pointer (some ⟨g, 0, none⟩)] w fun e w' => e = .returned (.tuple #[]) ∧ Step w0 w' g d ts (tagP d a) := by
 have H := Lib.hid h
 have hsz : d.data.toList.length = d.size := (Lib.size_eq d).symm
 obtain ⟨E, hE⟩ : ∃ E, nameEndP d.data.toList (a + 1) = E := ⟨_, rfl⟩
 have hE1 := nameEndP_in d.data.toList (a + 1) (by omega) (by omega)
 rw [hE] at hE1
 have hN : ∀ W, Calls Tryz.prog 76 #[.string d, .int .i64 (a + 1)] W fun e w' => e = .returned (.int .i64 E) ∧ Below W.heap.size W w' := fun W => chars_NameEnd.calls d (a + 1) E W (by unfold chars_NameEnd.f; rw [if_pos (by omega), hE])
 obtain ⟨P, hP⟩ : ∃ P, tagP d a = P := ⟨_, rfl⟩
 rw [hP]
 unfold tagP at hP
 simp only [hE] at hP
 have hc0 := h.c0
 have hc1 := h.c1
 have hx0 := h.drew.c0
 have hx1 := h.drew.c1
 have hw : IntKind.i64.wrap (a + 1) = a + 1 := zz11
 have hla : ts.length ≤ 1000000 := by omega
 clear h
 by_cases c1 : E = a + 1
 ·rw [if_pos c1] at hP
  subst hP
  have b1 : (E == a + 1) = true := by rw [c1]; exact beq_self_eq_true _
  have b2 := eq_true c1
  clear c1
  go_enter Tryz.func82, Tryz.ntmps82
  go_step3
  go_wp2
  go_region_held3 (fun W => W.cell? ⟨g, 0, none⟩ = some (.string d) ∧ W.cell? ⟨g, 1, none⟩ = some (.int .i64 a)) (first | exact ⟨by assumption, by assumption⟩ | go_keep) ((go_at_call 76; (with_reducible refine (hN _).mono ?_); rintro e w1 ⟨rfl, hb_⟩; have H1 := Lib.hid (show Rd w0 w1 g d a ts false from by first | exact H.out.below hb_ | exact (H.out.drewN _).below hb_ | exact (H.out.drew).below hb_); have hd0 := H1.out.c0; have hd1 := H1.out.c1; have hd3 := H1.out.c3; clear hb_))
  go_wp2_with ((go_at_call 107; (with_reducible refine (fails_c _ (by first | exact H1.out | exact H1.out.drewN _)).mono ?_); rintro e w' ⟨rfl, hf_⟩))
  (try rw [Exit.noGoto_ret])
  first | go_end0 | go_ret | ((try simp only [Exit.inBlock, Exit.then]); refine bodyPost_ret (results_none rfl _ _ _) rfl ?_)
  exact ⟨rfl, _, _, hf_⟩
 rw [if_neg c1] at hP
 have b1 : (E == a + 1) = false := beq_eq_false_iff_ne.2 c1
 have b2 := eq_false c1
 clear c1
 have g0 : decide (0 ≤ a + 1) = true := decide_eq_true (by omega)
 have g1 : decide (a + 1 ≤ E) = true := decide_eq_true (by omega)
 have g2 : decide (E ≤ (d.size : Int)) = true := decide_eq_true (by omega)
 have g0' := eq_true (show 0 ≤ a + 1 by omega)
 have g1' := eq_true (show a + 1 ≤ E by omega)
 have g2' := eq_true (show E ≤ (d.size : Int) by omega)
 have hT : TagRel d P E [⟨1, a, E, partB d (a + 1) E, ⟨#[]⟩⟩] := ⟨by omega, by omega, by simp; omega, ⟨d.size + 1, by omega, hP.symm⟩⟩
 have HT := Lib.hid hT
 clear hT hP
 go_enter Tryz.func82, Tryz.ntmps82
 go_step3
 go_wp2
 go_region_held3 (fun W => W.cell? ⟨g, 0, none⟩ = some (.string d) ∧ W.cell? ⟨g, 1, none⟩ = some (.int .i64 a)) (first | exact ⟨by assumption, by assumption⟩ | go_keep) ((go_at_call 76; (with_reducible refine (hN _).mono ?_); rintro e w1 ⟨rfl, hb_⟩; have H1 := Lib.hid (show Rd w0 w1 g d a ts false from by first | exact H.out.below hb_ | exact (H.out.drewN _).below hb_ | exact (H.out.drew).below hb_); have hd0 := H1.out.c0; have hd1 := H1.out.c1; have hd3 := H1.out.c3; clear hb_))
 go_wp2
 have hy0 := H1.out.drew.c0
 have hy1 := H1.out.drew.c1
 go_region_with (go_at_call 108; refine (tell_c (w0 := w0) (g := g) (d := d) (a := a) (ts := ts) (x := false) _ (by first | exact H1.out.drewN _ | exact H1.out.drew | exact (H1.out.drewN _).drew | exact H1.out) 1 a _ _ _ hla).mono ?_; rintro e w' ⟨rfl, hr⟩; have hc9 := hr.c0)
 all_goals
  go_wp2
  (try go_step3)
  go_wp2
  have H2 := Lib.hid hr
  clear hr
  go_loopw [3] (fun t wr => (Hid (P = none) ∧ ∃ p ts', Hid (Rd w0 wr g d p ts' true)) ∨ (∃ p acc, Hid (TagRel d P p acc) ∧ Hid (Rd w0 wr g d p (ts ++ acc) false))) (fun t wr => ahead d g wr)
  case atStart => exact .inr ⟨_, _, HT, H2⟩
  case round =>
   clear H2 HT
   rcases hrel with ⟨hPn, p, ts', HR⟩ | ⟨p, acc, hRel, HR⟩
   ·have hc3 := HR.out.c3
    go_wp2
    first | go_end0 | go_ret | (simp only [Exit.noGoto]; go_end0) | (simp only [Exit.noGoto]; refine bodyPost_ret (results_none rfl _ _ _) rfl ?_) | ((try rw [Exit.noGoto_ret]); (try simp only [Exit.inBlock, Exit.then]); refine bodyPost_ret (results_none rfl _ _ _) rfl ?_)
    exact ⟨rfl, by rw [hPn.out]; exact ⟨_, _, HR.out⟩⟩
   ·have hmeas := Lib.hid HR.out.ahead_
    obtain ⟨r1, r2, r3, n, hn, hPn⟩ := hRel.out
    have hc3 := HR.out.c3
    have hz3 := HR.out.drew.c3
    have hz0 := HR.out.drew.c0
    have hz1 := HR.out.drew.c1
    have hv0 := HR.out.c0
    have hv1 := HR.out.c1
    obtain ⟨I, hI⟩ : ∃ I, skipP d.data.toList p = I := ⟨_, rfl⟩
    have hI1 := skipP_in d.data.toList p r1 (by omega)
    rw [hI] at hI1
    have hK : ∀ W, Calls Tryz.prog 59 #[.string d, .int .i64 p] W fun e w' => e = .returned (.int .i64 I) ∧ Below W.heap.size W w' := fun W => chars_Skip.calls d p I W (by unfold chars_Skip.f; rw [if_pos (by omega), hI])
    cases n with
    | zero => omega
    | succ n =>
    unfold attrsF at hPn
    rw [hI] at hPn
    have hw5 : IntKind.i64.wrap (I + 1) = I + 1 := zz11
    have hw6 : IntKind.i64.wrap (I + 2) = I + 2 := zz11
    obtain ⟨s1, hS1⟩ : ∃ s, standsB d I ⟨#[62]⟩ = s := ⟨_, rfl⟩
    obtain ⟨s2, hS2⟩ : ∃ s, standsB d I ⟨#[47, 62]⟩ = s := ⟨_, rfl⟩
    rw [hS1, hS2] at hPn
    cases s1 with
    | true =>
     rw [if_pos rfl] at hPn
     subst hPn
     go_wp2
     go_region_held3 (fun W => W.cell? ⟨g, 0, none⟩ = some (.string d) ∧ W.cell? ⟨g, 1, none⟩ = some (.int .i64 p)) (first | exact ⟨by assumption, by assumption⟩ | go_keep) ((go_at_call 59; (with_reducible refine (hK _).mono ?_); rintro e w1 ⟨rfl, hb_⟩; have H3 := Lib.hid (show Rd w0 w1 g d p (ts ++ acc) false from by first | exact HR.out.below hb_ | exact (HR.out.drewN _).below hb_ | exact (HR.out.drew).below hb_); have he0 := H3.out.c0; have he1 := H3.out.c1; have he3 := H3.out.c3; clear hb_))
     go_wp2_with (first | (go_at_call 78; (with_reducible refine (stands_c _ (zz14) I _ (by omega)).mono ?_); rintro e w' ⟨rfl, n_, rfl⟩) | (go_at_call 108; (with_reducible refine (tell_c (w0 := w0) (g := g) (d := d) (a := p) (ts := ts ++ acc) (x := false) _ (zz14) 3 I _ _ _ (zz24)).mono ?_); rintro e w' ⟨rfl, ht⟩))
     first | go_end0 | go_ret | (simp only [Exit.noGoto]; go_end0) | (simp only [Exit.noGoto]; refine bodyPost_ret (results_none rfl _ _ _) rfl ?_) | ((try rw [Exit.noGoto_ret]); (try simp only [Exit.inBlock, Exit.then]); refine bodyPost_ret (results_none rfl _ _ _) rfl ?_)
     exact ⟨rfl, by rw [List.append_assoc] at ht; exact ht⟩
    | false =>
     rw [if_neg (by decide)] at hPn
     cases s2 with
     | true =>
      rw [if_pos rfl] at hPn
      subst hPn
      go_wp2
      go_region_held3 (fun W => W.cell? ⟨g, 0, none⟩ = some (.string d) ∧ W.cell? ⟨g, 1, none⟩ = some (.int .i64 p)) (first | exact ⟨by assumption, by assumption⟩ | go_keep) ((go_at_call 59; (with_reducible refine (hK _).mono ?_); rintro e w1 ⟨rfl, hb_⟩; have H3 := Lib.hid (show Rd w0 w1 g d p (ts ++ acc) false from by first | exact HR.out.below hb_ | exact (HR.out.drewN _).below hb_ | exact (HR.out.drew).below hb_); have he0 := H3.out.c0; have he1 := H3.out.c1; have he3 := H3.out.c3; clear hb_))
      go_wp2_with (first | (go_at_call 78; (with_reducible refine (stands_c _ (zz14) I _ (by omega)).mono ?_); rintro e w' ⟨rfl, n_, rfl⟩) | (go_at_call 108; (with_reducible refine (tell_c (w0 := w0) (g := g) (d := d) (a := p) (ts := ts ++ acc) (x := false) _ (zz14) 4 I _ _ _ (zz24)).mono ?_); rintro e w' ⟨rfl, ht⟩))
      first | go_end0 | go_ret | (simp only [Exit.noGoto]; go_end0) | (simp only [Exit.noGoto]; refine bodyPost_ret (results_none rfl _ _ _) rfl ?_) | ((try rw [Exit.noGoto_ret]); (try simp only [Exit.inBlock, Exit.then]); refine bodyPost_ret (results_none rfl _ _ _) rfl ?_)
      exact ⟨rfl, by rw [List.append_assoc] at ht; exact ht⟩
     | false =>
      rw [if_neg (by decide)] at hPn
      cases hA : attrP d p with
      | none =>
       rw [hA] at hPn
       subst hPn
       go_wp2
       go_region_held3 (fun W => W.cell? ⟨g, 0, none⟩ = some (.string d) ∧ W.cell? ⟨g, 1, none⟩ = some (.int .i64 p)) (first | exact ⟨by assumption, by assumption⟩ | go_keep) ((go_at_call 59; (with_reducible refine (hK _).mono ?_); rintro e w1 ⟨rfl, hb_⟩; have H3 := Lib.hid (show Rd w0 w1 g d p (ts ++ acc) false from by first | exact HR.out.below hb_ | exact (HR.out.drewN _).below hb_ | exact (HR.out.drew).below hb_); have he0 := H3.out.c0; have he1 := H3.out.c1; have he3 := H3.out.c3; clear hb_))
       go_wp2_with (first | (go_at_call 78; (with_reducible refine (stands_c _ (zz14) I _ (by omega)).mono ?_); rintro e w' ⟨rfl, n_, rfl⟩) | (go_at_call 110; (with_reducible refine (attr_c (w0 := w0) (g := g) (d := d) (a := p) (ts := ts ++ acc) _ (zz14) hG (zz24) (by omega) (by omega) (by omega)).mono ?_); rintro e w4 ⟨rfl, ht⟩))
       rw [hA] at ht
       obtain ⟨a', ts', ht⟩ := ht
       have HA := Lib.hid ht
       clear ht
       go_wp2
       go_roundw
       case rel => exact .inl ⟨Lib.hid (by first | trivial | rfl), _, _, HA⟩
       case measure => rw [hmeas.out, HA.out.ahead_]; simp only [Bool.false_eq_true, if_false, if_true]; omega
      | some v =>
       obtain ⟨new, a'⟩ := v
       rw [hA] at hPn
       have hroom := attr_room d p r1 r2 new a' hA
       go_wp2
       go_region_held3 (fun W => W.cell? ⟨g, 0, none⟩ = some (.string d) ∧ W.cell? ⟨g, 1, none⟩ = some (.int .i64 p)) (first | exact ⟨by assumption, by assumption⟩ | go_keep) ((go_at_call 59; (with_reducible refine (hK _).mono ?_); rintro e w1 ⟨rfl, hb_⟩; have H3 := Lib.hid (show Rd w0 w1 g d p (ts ++ acc) false from by first | exact HR.out.below hb_ | exact (HR.out.drewN _).below hb_ | exact (HR.out.drew).below hb_); have he0 := H3.out.c0; have he1 := H3.out.c1; have he3 := H3.out.c3; clear hb_))
       go_wp2_with (first | (go_at_call 78; (with_reducible refine (stands_c _ (zz14) I _ (by omega)).mono ?_); rintro e w' ⟨rfl, n_, rfl⟩) | (go_at_call 110; (with_reducible refine (attr_c (w0 := w0) (g := g) (d := d) (a := p) (ts := ts ++ acc) _ (zz14) hG (zz24) (by omega) (by omega) (by omega)).mono ?_); rintro e w4 ⟨rfl, ht⟩))
       rw [hA] at ht
       have HA := Lib.hid (show Rd w0 w4 g d a' (ts ++ (acc ++ new)) false by rw [← List.append_assoc]; exact ht)
       clear ht
       go_wp2
       go_roundw
       case rel => exact .inr ⟨_, _, Lib.hid ⟨by omega, hroom.2.1, zz24, ⟨n, by omega, hPn⟩⟩, HA⟩
       case measure => rw [hmeas.out, HA.out.ahead_]; simp only [Bool.false_eq_true, if_false, if_true]; omega
end Go.Proofs.YtlhhhlimjajnlaaGreat.X
end
section
set_option linter.unusedVariables false
set_option linter.unusedSimpArgs false
namespace Go.Proofs.YtlhhhlimjajnlaaGreat.X
open Go.RowKit Go.Proofs.YtlhhhlimjajnlaaGreat Go.Proofs.YtlhhhlimjajnlaaGreat.Q Go.Proofs.YtlhhhlimjajnlaaGreat.P11 Go.Proofs.YtlhhhlimjajnlaaGreatW.PrintWords Go.Proofs.YtlhhhlimjajnlaaGreatW.PrintLast Go.Proofs.YtlhhhlimjajnlaaGreatW.PrintMore
def stepP (d : ByteArray) (a : Int) : Option (List Tok × Int) :=
 if standsB d a ⟨#[60, 33, 45, 45]⟩ = true then commentP d.data.toList a
 else if standsB d a ⟨#[60, 33, 91, 67, 68, 65, 84, 65, 91]⟩ = true then plainP d.data.toList a
 else if standsB d a ⟨#[60, 47]⟩ = true then closingP d a
 else if standsB d a ⟨#[60]⟩ = true then tagP d a
 else textP d.data.toList a
def lexF (d : ByteArray) : Nat → Int → List Tok → Option (List Tok)
 | 0, _, _ => none
 | n + 1, a, acc => if a < (d.size : Int) then (match stepP d a with
  | some (new, a') => lexF d n a' (acc ++ new)
  | none => none) else some acc
def lexO (d : ByteArray) : Option (List Tok) := lexF d (d.size + 1) 0 []
def lexV (d : ByteArray) : List Tok × Int :=
 if (65536 : Int) < (d.size : Int) then ([], 18)
 else if validL d.data.toList = false then ([], 15)
 else match lexO d with
  | some l => (l, 0)
  | none => ([], 15)
theorem standsB_take (d : ByteArray) (a : Int) (s : ByteArray) (h : standsB d a s = true) : ∃ t, d.data.toList.drop a.toNat = s.data.toList ++ t := by
 unfold standsB Lib.hasPrefix at h
 obtain ⟨t, ht⟩ := List.isPrefixOf_iff_prefix.1 h
 exact ⟨t, ht.symm⟩
theorem attrsF_room (d : ByteArray) (b : Int) : ∀ (n : Nat) (a : Int) (acc r : List Tok) (a' : Int), 0 ≤ b → b < a → a ≤ (d.size : Int) → (acc.length : Int) ≤ a - b → attrsF d n a acc = some (r, a') → b < a' ∧ a' ≤ (d.size : Int) ∧ (r.length : Int) ≤ a' - b := by
 intro n
 induction n with
 | zero => intro a acc r a' _ _ _ _ h; cases h
 | succ n ih =>
  intro a acc r a' hb h0 h1 hl h
  have hsz : d.data.toList.length = d.size := (Lib.size_eq d).symm
  unfold attrsF at h
  obtain ⟨I, hI⟩ : ∃ I, skipP d.data.toList a = I := ⟨_, rfl⟩
  have hI1 := skipP_in d.data.toList a (by omega) (by omega)
  rw [hI] at hI1
  rw [hI] at h
  by_cases c1 : standsB d I ⟨#[62]⟩ = true
  ·rw [if_pos c1] at h
   have := stands_room2 d I ⟨#[62]⟩ (by omega) (by decide) c1
   rw [show ((⟨#[62]⟩ : ByteArray).size : Int) = 1 from rfl] at this
   injection h with h; injection h with h2 h3
   subst h3 h2
   rw [List.length_append, List.length_singleton]
   omega
  rw [if_neg c1] at h
  by_cases c2 : standsB d I ⟨#[47, 62]⟩ = true
  ·rw [if_pos c2] at h
   have := stands_room2 d I ⟨#[47, 62]⟩ (by omega) (by decide) c2
   rw [show ((⟨#[47, 62]⟩ : ByteArray).size : Int) = 2 from rfl] at this
   injection h with h; injection h with h2 h3
   subst h3 h2
   rw [List.length_append, List.length_singleton]
   omega
  rw [if_neg c2] at h
  cases hA : attrP d a with
  | none => rw [hA] at h; cases h
  | some v =>
   obtain ⟨new, p⟩ := v
   rw [hA] at h
   have hr := attr_room d a (by omega) h1 new p hA
   exact ih p (acc ++ new) r a' hb (by omega) hr.2.1 (zz24) h
theorem hasPrefix_room (l s : List UInt8) (h : Lib.hasPrefix l s = true) : s.length ≤ l.length := by
 unfold Lib.hasPrefix at h
 obtain ⟨t, ht⟩ := List.isPrefixOf_iff_prefix.1 h
 have := congrArg List.length ht
 rw [List.length_append] at this; omega
theorem step_room (d : ByteArray) (a : Int) (h0 : 0 ≤ a) (h1 : a < (d.size : Int)) (new : List Tok) (a' : Int) (h : stepP d a = some (new, a')) : a < a' ∧ a' ≤ (d.size : Int) ∧ (new.length : Int) ≤ a' - a := by
 have hsz : d.data.toList.length = d.size := (Lib.size_eq d).symm
 unfold stepP at h
 by_cases c1 : standsB d a ⟨#[60, 33, 45, 45]⟩ = true
 ·rw [if_pos c1] at h
  unfold commentP at h
  obtain ⟨i, hi⟩ : ∃ i, Lib.index (d.data.toList.drop (a.toNat + 4)) [45, 45] = i := ⟨_, rfl⟩
  simp only [hi] at h
  by_cases c : i < 0
  ·rw [if_pos c] at h; cases h
  rw [if_neg c] at h
  by_cases c' : Lib.hasPrefix ((d.data.toList.drop (a.toNat + 4)).drop i.toNat) [45, 45, 62] = true
  ·rw [if_pos c'] at h
   have := hasPrefix_room _ _ c'
   rw [List.length_drop, List.length_drop] at this
   simp only [List.length_cons, List.length_nil] at this
   injection h with h; injection h with h2 h3
   subst h3 h2
   refine ⟨by omega, by omega, by simp; omega⟩
  ·rw [if_neg c'] at h; cases h
 rw [if_neg c1] at h
 by_cases c2 : standsB d a ⟨#[60, 33, 91, 67, 68, 65, 84, 65, 91]⟩ = true
 ·rw [if_pos c2] at h
  unfold plainP at h
  by_cases c : (Lib.cut (d.data.toList.drop (a.toNat + 9)) [93, 93, 62]).2.2 = true
  ·simp only [c, if_true] at h
   have hcl : ((Lib.cut (d.data.toList.drop (a.toNat + 9)) [93, 93, 62]).1.length : Int) + 3 ≤ ((d.data.toList.drop (a.toNat + 9)).length : Int) := by
    unfold Lib.cut at c ⊢
    by_cases ci : 0 ≤ Lib.index (d.data.toList.drop (a.toNat + 9)) [93, 93, 62]
    ·rw [if_pos ci]
     have := Lib.index_room _ _ ci
     simp only [List.length_cons, List.length_nil] at this
     rw [List.length_take]; omega
    ·rw [if_neg ci] at c; cases c
   rw [List.length_drop] at hcl
   injection h with h; injection h with h2 h3
   subst h3 h2
   refine ⟨by omega, by omega, by simp; omega⟩
  ·simp only [c] at h; cases h
 rw [if_neg c2] at h
 by_cases c3 : standsB d a ⟨#[60, 47]⟩ = true
 ·rw [if_pos c3] at h
  have hr := stands_room2 d a ⟨#[60, 47]⟩ h0 (by decide) c3
  rw [show ((⟨#[60, 47]⟩ : ByteArray).size : Int) = 2 from rfl] at hr
  unfold closingP at h
  obtain ⟨E, hE⟩ : ∃ E, nameEndP d.data.toList (a + 2) = E := ⟨_, rfl⟩
  obtain ⟨T, hT⟩ : ∃ T, skipP d.data.toList E = T := ⟨_, rfl⟩
  have hE1 := nameEndP_in d.data.toList (a + 2) (by omega) (by omega)
  rw [hE] at hE1
  have hT1 := skipP_in d.data.toList E (by omega) (by omega)
  rw [hT] at hT1
  simp only [hE, hT] at h
  by_cases c : E = a + 2
  ·rw [if_pos c] at h; cases h
  rw [if_neg c] at h
  by_cases c' : standsB d T ⟨#[62]⟩ = true
  ·rw [if_pos c'] at h
   have := stands_room d T 62 (by omega) c'
   injection h with h; injection h with h2 h3
   subst h3 h2
   refine ⟨by omega, by omega, by simp; omega⟩
  ·rw [if_neg c'] at h; cases h
 rw [if_neg c3] at h
 by_cases c4 : standsB d a ⟨#[60]⟩ = true
 ·rw [if_pos c4] at h
  unfold tagP at h
  obtain ⟨E, hE⟩ : ∃ E, nameEndP d.data.toList (a + 1) = E := ⟨_, rfl⟩
  have hE1 := nameEndP_in d.data.toList (a + 1) (by omega) (by omega)
  rw [hE] at hE1
  simp only [hE] at h
  by_cases c : E = a + 1
  ·rw [if_pos c] at h; cases h
  rw [if_neg c] at h
  exact attrsF_room d a _ _ _ _ _ h0 (by omega) (by omega) (by simp; omega) h
 rw [if_neg c4] at h
 unfold textP at h
 obtain ⟨b, hb⟩ : ∃ b, (Lib.cut (d.data.toList.drop a.toNat) [60]).1 = b := ⟨_, rfl⟩
 simp only [hb] at h
 have hble : b.length ≤ (d.data.toList.drop a.toNat).length := by rw [← hb]; exact cut_le _ _
 rw [List.length_drop] at hble
 have hb1 : 1 ≤ b.length := by
  have hlt : a.toNat < d.data.toList.length := by omega
  have hcons := List.drop_eq_getElem_cons hlt
  have hne : ¬ d.data.toList[a.toNat] = 60 := by
   intro e
   apply c4
   unfold standsB Lib.hasPrefix
   rw [hcons, e]
   simp [List.isPrefixOf]
  rw [← hb]
  unfold Lib.cut
  rw [Lib.index_one]
  by_cases ci : 0 ≤ Lib.indexByte (d.data.toList.drop a.toNat) 60
  ·rw [if_pos ci]
   obtain ⟨t, ht⟩ := ((indexByte_split (d.data.toList.drop a.toNat) 60).2 ci).2
   by_cases c0 : (Lib.indexByte (d.data.toList.drop a.toNat) 60).toNat = 0
   ·rw [c0, List.drop_zero, hcons] at ht
    injection ht with ht _
    exact absurd ht hne
   ·have := congrArg List.length ht
    rw [List.length_drop, List.length_cons, List.length_drop] at this
    show 1 ≤ ((d.data.toList.drop a.toNat).take _).length
    rw [List.length_take, List.length_drop]; omega
  ·rw [if_neg ci]
   show 1 ≤ (d.data.toList.drop a.toNat).length
   rw [List.length_drop]; omega
 cases hd : dec b with
 | none => rw [hd] at h; cases h
 | some v =>
  rw [hd] at h
  injection h with h; injection h with h2 h3
  subst h3 h2
  refine ⟨by omega, by omega, by simp; omega⟩
end Go.Proofs.YtlhhhlimjajnlaaGreat.X
end
section
set_option linter.unusedVariables false
set_option linter.unusedSimpArgs false
namespace Go.Proofs.YtlhhhlimjajnlaaGreat.X
open Go.RowKit Go.Proofs.YtlhhhlimjajnlaaGreat Go.Proofs.YtlhhhlimjajnlaaGreat.Q Go.Proofs.YtlhhhlimjajnlaaGreat.P11 Go.Proofs.YtlhhhlimjajnlaaGreatW.PrintWords Go.Proofs.YtlhhhlimjajnlaaGreatW.PrintLast Go.Proofs.YtlhhhlimjajnlaaGreatW.PrintMore
variable {w0 W : World} {g : Nat} {d : ByteArray} {a : Int} {ts : List Tok} {x : Bool}
def LexRel (d : ByteArray) (P : Option (List Tok)) (a : Int) (acc : List Tok) : Prop :=
 0 ≤ a ∧ a ≤ (d.size : Int) ∧ (acc.length : Int) ≤ a ∧ ∃ n : Nat, (d.size : Int) - a < n ∧ P = lexF d n a acc
theorem Rd.new (w W : World) (d : ByteArray) (hB : Below w.heap.size w W) : Rd w (W.alloc (.cells #[.string d, .int .i64 0, .slice none 0 0, .bool false] 91)) W.heap.size d 0 [] false :=
 ⟨.slice none 0 0, by simpa using heap_alloc_new W _, hB.size, Kd.R_nil _ _ _ _ _, below_alloc hB _⟩
theorem enters5 : (∀ a w, Sem.run Tryz.prog (callFunc 79 a) w = .ok (.enter 79 a) w) ∧ (∀ a w, Sem.run Tryz.prog (callFunc 80 a) w = .ok (.enter 80 a) w) ∧ (∀ a w, Sem.run Tryz.prog (callFunc 81 a) w = .ok (.enter 81 a) w) ∧ (∀ a w, Sem.run Tryz.prog (callFunc 82 a) w = .ok (.enter 82 a) w) ∧ (∀ a w, Sem.run Tryz.prog (callFunc 83 a) w = .ok (.enter 83 a) w) :=
 ⟨fun _ _ => by kernel_rfl, fun _ _ => by kernel_rfl, fun _ _ => by kernel_rfl, fun _ _ => by kernel_rfl, fun _ _ => by kernel_rfl⟩
theorem goes_on (w : World) (h : Rd w0 w g d a ts false) (hG : G w0) (hl : ts.length ≤ 100000) (hs : d.size ≤ 65536) (h0 : 0 ≤ a) (h1 : a < (d.size : Int)) :
 Calls Tryz.prog (nextK d a) #[.pointer (some ⟨g, 0, none⟩)] w fun e w' => e = .returned (.tuple #[]) ∧ Step w0 w' g d ts (stepP d a) := by
 have hr := fun s hs c => stands_room2 d a s h0 hs c
 unfold nextK stepP
 by_cases c1 : standsB d a ⟨#[60, 33, 45, 45]⟩ = true
 ·rw [if_pos c1, if_pos c1]
  have := hr _ (by decide) c1
  rw [show ((⟨#[60, 33, 45, 45]⟩ : ByteArray).size : Int) = 4 from rfl] at this
  exact comment_c w h hG (by omega) (by omega) h0 this
 rw [if_neg c1, if_neg c1]
 by_cases c2 : standsB d a ⟨#[60, 33, 91, 67, 68, 65, 84, 65, 91]⟩ = true
 ·rw [if_pos c2, if_pos c2]
  have := hr _ (by decide) c2
  rw [show ((⟨#[60, 33, 91, 67, 68, 65, 84, 65, 91]⟩ : ByteArray).size : Int) = 9 from rfl] at this
  exact plain_c w h hG (by omega) (by omega) h0 this
 rw [if_neg c2, if_neg c2]
 by_cases c3 : standsB d a ⟨#[60, 47]⟩ = true
 ·rw [if_pos c3, if_pos c3]
  have := hr _ (by decide) c3
  rw [show ((⟨#[60, 47]⟩ : ByteArray).size : Int) = 2 from rfl] at this
  exact closing_c w h (by omega) (by omega) h0 this
 rw [if_neg c3, if_neg c3]
 by_cases c4 : standsB d a ⟨#[60]⟩ = true
 ·rw [if_pos c4, if_pos c4]
  exact tag_c w h hG hl (by omega) h0 (by omega)
 rw [if_neg c4, if_neg c4]
 exact text_c w h hG (by omega) (by omega) h0 (by omega)
theorem enters_next (d : ByteArray) (p : Int) (a : Array Value) (w : World) : Sem.run Tryz.prog (callFunc (nextK d p) a) w = .ok (.enter (nextK d p) a) w := by
 obtain ⟨e1, e2, e3, e4, e5⟩ := enters5
 unfold nextK
 split
 ·exact e1 a w
 ·split
  ·exact e2 a w
  ·split
   ·exact e3 a w
   ·split
    ·exact e4 a w
    ·exact e5 a w
set_option maxHeartbeats 16000000 in
set_option maxRecDepth 100000 in
theorem lex_c (w : World) (hG : G w) (d : ByteArray) (hs : d.size ≤ 4294967280) :
 Calls Tryz.prog 25 #[.string d] w fun e w' => ∃ v, e = .returned (.tuple #[v, .int .i64 (lexV d).2]) ∧ Kd.R k51 51 w' w.heap.size (fun _ => True) v (lexV d).1 ∧ Below w.heap.size w w' := by
 obtain ⟨V, hV⟩ : ∃ V, lexV d = V := ⟨_, rfl⟩
 rw [hV]
 unfold lexV at hV
 by_cases c1 : (65536 : Int) < (d.size : Int)
 ·rw [if_pos c1] at hV
  subst hV
  have b1 : decide ((65536 : Int) < (d.size : Int)) = true := decide_eq_true c1
  have b2 := eq_true c1
  go_enter Tryz.func25, Tryz.ntmps25
  go_wp2
  first | go_ret | go_ret2 | go_ret3
  exact ⟨_, rfl, Kd.R_nil _ _ _ _ _, zz15⟩
 rw [if_neg c1] at hV
 have b1 : decide ((65536 : Int) < (d.size : Int)) = false := decide_eq_false c1
 have b2 := eq_false c1
 have hsz : d.size ≤ 65536 := by omega
 clear c1
 have hVa : ∀ W, Calls Tryz.prog 46 #[.string d] W fun e w' => e = .returned (.bool (validL d.data.toList)) ∧ Below W.heap.size W w' := fun W => chars_Valid.calls (d.size + 2 + 0) d _ W (valid_f d (by omega) 0)
 obtain ⟨q, hq⟩ : ∃ q, validL d.data.toList = q := ⟨_, rfl⟩
 rw [hq] at hVa hV
 cases q with
 | false =>
  rw [if_pos rfl] at hV
  subst hV
  go_enter Tryz.func25, Tryz.ntmps25
  go_wp2_with (go_at_call 46; (with_reducible refine (hVa _).mono ?_); rintro e w1 ⟨rfl, hb1⟩)
  first | go_ret | go_ret2 | go_ret3
  exact ⟨_, rfl, Kd.R_nil _ _ _ _ _, by repeat (first | exact hb1 | exact Below.refl _ _ | apply pw_below_drewN | apply below_drew | apply below_alloc)⟩
 | true =>
  rw [if_neg (by decide)] at hV
  have hNE := enters_next d
  have hT : LexRel d (lexO d) 0 [] := ⟨by omega, by omega, by simp, ⟨d.size + 1, by omega, rfl⟩⟩
  have HT := Lib.hid hT
  clear hT
  go_enter Tryz.func25, Tryz.ntmps25
  go_wp2_with (go_at_call 46; (with_reducible refine (hVa _).mono ?_); rintro e w1 ⟨rfl, hb1⟩)
  have hB1 : Below w.heap.size w w1 := by repeat (first | exact hb1 | apply pw_below_drewN | apply below_drew)
  have HI := Lib.hid (Rd.new w w1 d hB1)
  obtain ⟨g, hg⟩ : ∃ g, w1.heap.size = g := ⟨_, rfl⟩
  rw [hg] at HI ⊢
  clear hb1 hB1
  go_loopw [5] (fun t wr => (Hid (lexO d = none) ∧ ∃ p ts', Hid (Rd w wr g d p ts' true)) ∨ (∃ p acc, Hid (LexRel d (lexO d) p acc) ∧ Hid (Rd w wr g d p acc false))) (fun t wr => ahead d g wr)
  case atStart => exact .inr ⟨_, _, HT, HI⟩
  case round =>
   clear HI HT
   rcases hrel with ⟨hPn, p, ts', HR⟩ | ⟨p, acc, hRel, HR⟩
   ·have hc3 := HR.out.c3
    have hc1 := HR.out.c1
    rw [hPn.out] at hV
    have hV' : ([], 15) = V := hV
    subst hV'
    obtain ⟨bb, l1⟩ : ∃ bb, decide (p < (d.size : Int)) = bb := ⟨_, rfl⟩
    cases bb
    all_goals
     go_wp2
     first | go_ret | go_ret2 | go_ret3
     exact ⟨_, rfl, Kd.R_nil _ _ _ _ _, by first | exact HR.out.bel | exact (HR.out.drewN _).bel | exact HR.out.drew.bel⟩
   ·have hmeas := Lib.hid HR.out.ahead_
    obtain ⟨r1, r2, r3, n, hn, hPn⟩ := hRel.out
    have hc3 := HR.out.c3
    have hc1 := HR.out.c1
    cases n with
    | zero => omega
    | succ n =>
    unfold lexF at hPn
    by_cases hlt : p < (d.size : Int)
    ·rw [if_pos hlt] at hPn
     have l1 : decide (p < (d.size : Int)) = true := decide_eq_true hlt
     have l2 := eq_true hlt
     obtain ⟨K, hK⟩ : ∃ K, nextK d p = K := ⟨_, rfl⟩
     have hNx : ∀ W, Rd w W g d p acc false → Calls Tryz.prog 56 #[.pointer (some ⟨g, 0, none⟩)] W fun e w' => e = .returned (.func (.func K) #[.pointer (some ⟨g, 0, none⟩)] #[]) ∧ Below W.heap.size W w' := fun W h => by rw [← hK]; exact next_c W h r1
     have hGo : ∀ W, Rd w W g d p acc false → Calls Tryz.prog K #[.pointer (some ⟨g, 0, none⟩)] W fun e w' => e = .returned (.tuple #[]) ∧ Step w w' g d acc (stepP d p) := fun W h => by rw [← hK]; exact goes_on W h hG (by omega) hsz r1 hlt
     have hEn : ∀ (a : Array Value) (w : World), Sem.run Tryz.prog (callFunc K a) w = .ok (.enter K a) w := fun a w => by rw [← hK]; exact enters_next d p a w
     go_wp2_with (go_at_call 56; (with_reducible refine (hNx _ (by first | exact HR.out | exact HR.out.drewN _)).mono ?_); rintro e w3 ⟨rfl, hb_⟩; have H3 := Lib.hid (show Rd w w3 g d p acc false from by first | exact HR.out.below hb_ | exact (HR.out.drewN _).below hb_); clear hb_)
     go_wp2_with ((with_reducible refine (hGo _ (zz20)).mono ?_); rintro e w4 ⟨rfl, ht⟩)
     cases hS : stepP d p with
     | none =>
      rw [hS] at ht hPn
      obtain ⟨a', ts', ht⟩ := ht
      have HA := Lib.hid ht
      have HP := Lib.hid hPn
      clear ht hPn hV
      go_wp2
      go_roundw
      case rel => first | exact .inl ⟨HP, _, _, HA⟩ | exact .inl ⟨_, _, HA⟩
      case measure => rw [hmeas.out, HA.out.ahead_]; simp only [Bool.false_eq_true, if_false, if_true]; omega
     | some v =>
      obtain ⟨new, a'⟩ := v
      rw [hS] at ht hPn
      have hroom := step_room d p r1 hlt new a' hS
      have HA := Lib.hid (show Rd w w4 g d a' (acc ++ new) false from ht)
      have HP := Lib.hid hPn
      clear ht hPn hV
      go_wp2
      go_roundw
      case rel => exact .inr ⟨_, _, Lib.hid ⟨by omega, hroom.2.1, zz24, ⟨n, by omega, HP.out⟩⟩, HA⟩
      case measure => rw [hmeas.out, HA.out.ahead_]; simp only [Bool.false_eq_true, if_false, if_true]; omega
    ·rw [if_neg hlt] at hPn
     have l1 : decide (p < (d.size : Int)) = false := decide_eq_false hlt
     have l2 := eq_false hlt
     rw [hPn] at hV
     have hV' : (acc, 0) = V := hV
     subst hV'
     obtain ⟨v, h1, h2, h3, h4⟩ := HR.out
     obtain ⟨A, c, rfl, -, -⟩ := Kd.R_reads h3
     have hc2 : wr.cell? ⟨g, 2, none⟩ = some (.slice A acc.length c) := (blk_cell h1 2).trans rfl
     have H5 := Lib.hid h3
     have H6 := Lib.hid h4
     clear h1 h3 h4
     go_wp2
     first | go_ret | go_ret2 | go_ret3
     exact ⟨_, rfl, Kd.R_mono (by first | exact H5.out | exact Kd.R_drewN H5.out _ | exact Kd.R_drew H5.out) (fun _ _ => trivial), by first | exact H6.out | exact pw_below_drewN H6.out _⟩
def lexer_Lex.f (a0 : ByteArray) : Option (List Tok × Int) := if a0.size ≤ 4294967280 then some (lexV a0) else none
theorem lexer_Lex.calls (a0 : ByteArray) (r1 : List Tok) (r2 : Int) (w : World) (hG : G w) (h : lexer_Lex.f a0 = some (r1, r2)) :
 Calls Tryz.prog 25 #[.string a0] w fun e w' => ∃ v0_ : Value, e = .returned (.tuple #[v0_, .int .i64 r2]) ∧ Kd.R k51 51 w' w.heap.size (fun _ => True) v0_ r1 ∧ Below w.heap.size w w' := by
 unfold lexer_Lex.f at h
 split at h
 ·rename_i hs
  have h := Option.some.inj h
  have h1 : r1 = (lexV a0).1 := by rw [h]
  have h2 : r2 = (lexV a0).2 := by rw [h]
  subst h1 h2
  exact lex_c w hG a0 hs
 ·cases h
end Go.Proofs.YtlhhhlimjajnlaaGreat.X
end
section
set_option linter.unusedVariables false
set_option linter.unusedSimpArgs false
namespace Go.Proofs.YtlhhhlimjajnlaaGreat.X
open Go Go.RowKit Go.Proofs.YtlhhhlimjajnlaaGreat Go.Proofs.YtlhhhlimjajnlaaGreat.Q Go.Proofs.YtlhhhlimjajnlaaGreat.P11 Go.Proofs.YtlhhhlimjajnlaaGreatW.PrintWords
def parseV (d : ByteArray) : (List ByteArray × List Nod) × Int :=
 if (lexV d).2 = 0 then treeP (flushP ((lexV d).1.foldl stepT psZero)) else (([], []), (lexV d).2)
end Go.Proofs.YtlhhhlimjajnlaaGreat.X
end
section
set_option linter.unusedVariables false
set_option linter.unusedSimpArgs false
namespace Go.Proofs.YtlhhhlimjajnlaaGreat.P12
open Go Go.RowKit Go.Proofs.YtlhhhlimjajnlaaGreat Go.Proofs.YtlhhhlimjajnlaaGreat.Q Go.Proofs.YtlhhhlimjajnlaaGreatW.PrintWords Go.Proofs.YtlhhhlimjajnlaaGreat.X Go.Proofs.YtlhhhlimjajnlaaGreat.P11
def opens (k : Int) : Bool := k == 1 || k == 2
def inTag (k : Int) : Bool := k == 2 || k == 3 || k == 4
def Seg (l : List UInt8) : Int → Bool → List Tok → Int → Bool → Prop
 | a, x, [], b, y => a = b ∧ x = y
 | a, x, t :: r, b, y => a ≤ t.f1 ∧ t.f1 < t.f2 ∧ t.f2 ≤ l.length ∧ (∀ n : Nat, a ≤ n → (n : Int) < t.f1 → spaceB (l.getD n 0) = true ∧ x = true) ∧ x = inTag t.f0 ∧ Seg l t.f2 (opens t.f0) r b y
theorem Seg.append {l : List UInt8} : ∀ {r1 r2 : List Tok} {a b c : Int} {x y z : Bool}, Seg l a x r1 b y → Seg l b y r2 c z → Seg l a x (r1 ++ r2) c z
 | [], r2, a, b, c, x, y, z, h1, h2 => by
  obtain ⟨rfl, rfl⟩ := h1
  exact h2
 | t :: r1, r2, a, b, c, x, y, z, h1, h2 => by
  obtain ⟨e1, e2, e3, e4, e5, e6⟩ := h1
  exact ⟨e1, e2, e3, e4, e5, Seg.append e6 h2⟩
theorem Seg.one {l : List UInt8} {t : Tok} {a b : Int} {x : Bool} (h1 : t.f1 = a) (h2 : t.f2 = b) (h3 : a < b) (h4 : b ≤ l.length) (h5 : x = inTag t.f0) : Seg l a x [t] b (opens t.f0) := by
 refine ⟨by omega, by omega, by omega, fun n c1 c2 => by omega, h5, h2, rfl⟩
theorem skip_spaces (l : List UInt8) (a : Int) (h0 : 0 ≤ a) (n : Nat) (h1 : a ≤ n) (h2 : (n : Int) < skipP l a) : spaceB (l.getD n 0) = true := by
 unfold skipP at h2
 split at h2
 ·rename_i hc
  have hk : n - a.toNat < ((l.drop a.toNat).takeWhile spaceB).length := by omega
  have hm : ((l.drop a.toNat).takeWhile spaceB)[n - a.toNat] ∈ (l.drop a.toNat).takeWhile spaceB := List.getElem_mem hk
  have hs := List.all_eq_true.1 (List.all_takeWhile (p := spaceB) (l := l.drop a.toNat)) _ hm
  have hle := takeWhile_le spaceB (l.drop a.toNat)
  rw [List.length_drop] at hle
  have hpre : (l.drop a.toNat).takeWhile spaceB <+: l.drop a.toNat := List.takeWhile_prefix spaceB
  have he := hpre.getElem hk
  rw [he, List.getElem_drop] at hs
  rw [List.getD_eq_getElem?_getD, List.getElem?_eq_getElem (by omega)]
  simp only [Option.getD_some]
  have hidx : a.toNat + (n - a.toNat) = n := by omega
  simp only [hidx] at hs
  exact hs
 ·omega
theorem Seg.tag {l : List UInt8} {t : Tok} {a b : Int} (h0 : 0 ≤ a) (ha : a ≤ l.length) (h1 : t.f1 = skipP l a) (h2 : t.f2 = b) (h3 : skipP l a < b) (h4 : b ≤ l.length) (h5 : inTag t.f0 = true) : Seg l a true [t] b (opens t.f0) := by
 have := skipP_in l a h0 ha
 refine ⟨by omega, by omega, by omega, fun n c1 c2 => ⟨skip_spaces l a h0 n c1 (by omega), rfl⟩, h5.symm, h2, rfl⟩
theorem attr_seg (d : ByteArray) (a : Int) (h0 : 0 ≤ a) (h1 : a ≤ (d.size : Int)) (new : List Tok) (a' : Int) (h : attrP d a = some (new, a')) : Seg d.data.toList a true new a' true := by
 have hroom := attr_room d a h0 h1 new a' h
 have hsz : d.data.toList.length = d.size := (Lib.size_eq d).symm
 unfold attrP at h
 obtain ⟨F, hF⟩ : ∃ F, skipP d.data.toList a = F := ⟨_, rfl⟩
 obtain ⟨E, hE⟩ : ∃ E, nameEndP d.data.toList F = E := ⟨_, rfl⟩
 obtain ⟨Q, hQ⟩ : ∃ Q, skipP d.data.toList E = Q := ⟨_, rfl⟩
 obtain ⟨O, hO⟩ : ∃ O, skipP d.data.toList (Q + 1) = O := ⟨_, rfl⟩
 simp only [hF, hE, hQ, hO] at h
 have hF1 := skipP_in d.data.toList a (by omega) (by omega)
 rw [hF] at hF1
 have hE1 := nameEndP_in d.data.toList F (by omega) (by omega)
 rw [hE] at hE1
 have hQ1 := skipP_in d.data.toList E (by omega) (by omega)
 rw [hQ] at hQ1
 by_cases c1 : F = a
 ·rw [if_pos c1] at h; cases h
 rw [if_neg c1] at h
 by_cases c2 : E = F
 ·rw [if_pos c2] at h; cases h
 rw [if_neg c2] at h
 by_cases c3 : standsB d Q ⟨#[61]⟩ = false
 ·rw [if_pos c3] at h; cases h
 rw [if_neg c3] at h
 have hr1 := stands_room d Q 61 (by omega) (by simpa using c3)
 have hO1 := skipP_in d.data.toList (Q + 1) (by omega) (by omega)
 rw [hO] at hO1
 by_cases c4 : standsB d O ⟨#[34]⟩ = false ∧ standsB d O ⟨#[39]⟩ = false
 ·rw [if_pos c4] at h; cases h
 rw [if_neg c4] at h
 obtain ⟨c, hc⟩ : ∃ c, Lib.cut (d.data.toList.drop (O + 1).toNat) (partB d O (O + 1)).data.toList = c := ⟨_, rfl⟩
 rw [hc] at h
 by_cases c5 : c.2.2 = false
 ·rw [if_pos c5] at h; cases h
 rw [if_neg c5] at h
 by_cases c6 : 0 ≤ Lib.indexByte c.1 60
 ·rw [if_pos c6] at h; cases h
 rw [if_neg c6] at h
 cases hd : dec c.1 with
 | none => rw [hd] at h; cases h
 | some v =>
  rw [hd] at h
  injection h with h
  injection h with h2 h3
  subst h3 h2
  exact Seg.tag h0 (by omega) hF.symm rfl (by omega) (by omega) rfl
theorem attrs_seg (d : ByteArray) : ∀ (n : Nat) (a : Int) (acc r : List Tok) (a' : Int), 0 ≤ a → a ≤ (d.size : Int) → attrsF d n a acc = some (r, a') → ∃ r', r = acc ++ r' ∧ Seg d.data.toList a true r' a' false := by
 intro n
 induction n with
 | zero => intro a acc r a' _ _ h; cases h
 | succ n ih =>
  intro a acc r a' h0 h1 h
  have hsz : d.data.toList.length = d.size := (Lib.size_eq d).symm
  unfold attrsF at h
  obtain ⟨I, hI⟩ : ∃ I, skipP d.data.toList a = I := ⟨_, rfl⟩
  have hI1 := skipP_in d.data.toList a (by omega) (by omega)
  rw [hI] at hI1
  rw [hI] at h
  by_cases c1 : standsB d I ⟨#[62]⟩ = true
  ·rw [if_pos c1] at h
   have := stands_room2 d I ⟨#[62]⟩ (by omega) (by decide) c1
   rw [show ((⟨#[62]⟩ : ByteArray).size : Int) = 1 from rfl] at this
   injection h with h; injection h with h2 h3
   subst h3 h2
   exact ⟨_, rfl, Seg.tag h0 (by omega) hI.symm rfl (by omega) (by omega) rfl⟩
  rw [if_neg c1] at h
  by_cases c2 : standsB d I ⟨#[47, 62]⟩ = true
  ·rw [if_pos c2] at h
   have := stands_room2 d I ⟨#[47, 62]⟩ (by omega) (by decide) c2
   rw [show ((⟨#[47, 62]⟩ : ByteArray).size : Int) = 2 from rfl] at this
   injection h with h; injection h with h2 h3
   subst h3 h2
   exact ⟨_, rfl, Seg.tag h0 (by omega) hI.symm rfl (by omega) (by omega) rfl⟩
  rw [if_neg c2] at h
  cases hA : attrP d a with
  | none => rw [hA] at h; cases h
  | some v =>
   obtain ⟨new, p⟩ := v
   rw [hA] at h
   have hr := attr_room d a (by omega) h1 new p hA
   obtain ⟨r', e, hs⟩ := ih p (acc ++ new) r a' (by omega) hr.2.1 h
   exact ⟨new ++ r', by rw [e, List.append_assoc], (attr_seg d a h0 h1 new p hA).append hs⟩
theorem step_seg (d : ByteArray) (a : Int) (h0 : 0 ≤ a) (h1 : a < (d.size : Int)) (new : List Tok) (a' : Int) (h : stepP d a = some (new, a')) : Seg d.data.toList a false new a' false := by
 have hroom := step_room d a h0 h1 new a' h
 have hsz : d.data.toList.length = d.size := (Lib.size_eq d).symm
 unfold stepP at h
 by_cases c1 : standsB d a ⟨#[60, 33, 45, 45]⟩ = true
 ·rw [if_pos c1] at h
  unfold commentP at h
  obtain ⟨i, hi⟩ : ∃ i, Lib.index (d.data.toList.drop (a.toNat + 4)) [45, 45] = i := ⟨_, rfl⟩
  simp only [hi] at h
  by_cases c : i < 0
  ·rw [if_pos c] at h; cases h
  rw [if_neg c] at h
  by_cases c' : Lib.hasPrefix ((d.data.toList.drop (a.toNat + 4)).drop i.toNat) [45, 45, 62] = true
  ·rw [if_pos c'] at h
   injection h with h; injection h with h2 h3
   subst h3 h2
   exact Seg.one rfl rfl (by omega) (by omega) rfl
  ·rw [if_neg c'] at h; cases h
 rw [if_neg c1] at h
 by_cases c2 : standsB d a ⟨#[60, 33, 91, 67, 68, 65, 84, 65, 91]⟩ = true
 ·rw [if_pos c2] at h
  unfold plainP at h
  by_cases c : (Lib.cut (d.data.toList.drop (a.toNat + 9)) [93, 93, 62]).2.2 = true
  ·simp only [c, if_true] at h
   injection h with h; injection h with h2 h3
   subst h3 h2
   exact Seg.one rfl rfl (by omega) (by omega) rfl
  ·simp only [c] at h; cases h
 rw [if_neg c2] at h
 by_cases c3 : standsB d a ⟨#[60, 47]⟩ = true
 ·rw [if_pos c3] at h
  unfold closingP at h
  obtain ⟨E, hE⟩ : ∃ E, nameEndP d.data.toList (a + 2) = E := ⟨_, rfl⟩
  obtain ⟨T, hT⟩ : ∃ T, skipP d.data.toList E = T := ⟨_, rfl⟩
  simp only [hE, hT] at h
  by_cases c : E = a + 2
  ·rw [if_pos c] at h; cases h
  rw [if_neg c] at h
  by_cases c' : standsB d T ⟨#[62]⟩ = true
  ·rw [if_pos c'] at h
   injection h with h; injection h with h2 h3
   subst h3 h2
   exact Seg.one rfl rfl (by omega) (by omega) rfl
  ·rw [if_neg c'] at h; cases h
 rw [if_neg c3] at h
 by_cases c4 : standsB d a ⟨#[60]⟩ = true
 ·rw [if_pos c4] at h
  unfold tagP at h
  obtain ⟨E, hE⟩ : ∃ E, nameEndP d.data.toList (a + 1) = E := ⟨_, rfl⟩
  have hE1 := nameEndP_in d.data.toList (a + 1) (by omega) (by omega)
  rw [hE] at hE1
  simp only [hE] at h
  by_cases c : E = a + 1
  ·rw [if_pos c] at h; cases h
  rw [if_neg c] at h
  obtain ⟨r', e, hs⟩ := attrs_seg d _ _ _ _ _ (by omega) (by omega) h
  rw [e]
  exact Seg.append (Seg.one (t := ⟨1, a, E, partB d (a + 1) E, ⟨#[]⟩⟩) (b := E) rfl rfl (by omega) (by omega) rfl) hs
 rw [if_neg c4] at h
 unfold textP at h
 obtain ⟨b, hb⟩ : ∃ b, (Lib.cut (d.data.toList.drop a.toNat) [60]).1 = b := ⟨_, rfl⟩
 simp only [hb] at h
 cases hd : dec b with
 | none => rw [hd] at h; cases h
 | some v =>
  rw [hd] at h
  injection h with h; injection h with h2 h3
  subst h3 h2
  exact Seg.one rfl rfl (by omega) (by omega) rfl
theorem lexF_seg (s : ByteArray) (n : Nat) : ∀ (a : Int) (acc l : List Tok), 0 ≤ a → a ≤ (s.size : Int) → lexF s n a acc = some l → ∃ r, l = acc ++ r ∧ Seg s.data.toList a false r s.size false := by
 induction n with
 | zero => intro a acc l _ _ h; cases h
 | succ n ih =>
  intro a acc l h0 h1 h
  unfold lexF at h
  by_cases hlt : a < (s.size : Int)
  ·rw [if_pos hlt] at h
   cases hS : stepP s a with
   | none => rw [hS] at h; cases h
   | some v =>
    obtain ⟨new, a'⟩ := v
    rw [hS] at h
    have hroom := step_room s a h0 hlt new a' hS
    obtain ⟨r, e, hs⟩ := ih a' (acc ++ new) l (by omega) hroom.2.1 h
    exact ⟨new ++ r, by rw [e, List.append_assoc], (step_seg s a h0 hlt new a' hS).append hs⟩
  ·rw [if_neg hlt] at h
   obtain rfl := Option.some.inj h
   exact ⟨[], by simp, by omega, rfl⟩
theorem lexV_seg (s : ByteArray) (h : (lexV s).2 = 0) : Seg s.data.toList 0 false (lexV s).1 s.size false := by
 unfold lexV at h ⊢
 split
 ·rename_i c; rw [if_pos c] at h; cases h
 ·rename_i c
  rw [if_neg c] at h
  split
  ·rename_i c'; rw [if_pos c'] at h; cases h
  ·rename_i c'
   rw [if_neg c'] at h
   cases ho : lexO s with
   | none => rw [ho] at h; cases h
   | some l =>
    obtain ⟨r, e, hs⟩ := lexF_seg s _ 0 [] l (by omega) (by omega) ho
    rw [List.nil_append] at e
    subst e
    exact hs
theorem lexV_bad (s : ByteArray) (h : ¬ (lexV s).2 = 0) : (lexV s).1 = [] := by
 unfold lexV at h ⊢
 split
 ·rfl
 ·rename_i c
  rw [if_neg c] at h
  split
  ·rfl
  ·rename_i c'
   rw [if_neg c'] at h
   cases ho : lexO s with
   | none => rfl
   | some l => rw [ho] at h; exact absurd rfl h
end Go.Proofs.YtlhhhlimjajnlaaGreat.P12
end
