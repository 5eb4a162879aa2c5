/- Parts of the proof of canonSpoilt_holds, kept and merged by a program of mine (wip/tools/slim.py) out of my texts: P11d P11y LexJ P12g ParI ParN P12h P12x P12a P12b P12c P12d P12e AtW AtC -/
import Derived.Test.YtlhhhlimjajnlaaGreatSSp0
import Derived.Lib.IndexMore
import Derived.Test.YtlhhhlimjajnlaaGreatSSp20
import Derived.Test.YtlhhhlimjajnlaaGreatSSp4
import Derived.Test.YtlhhhlimjajnlaaGreatSSp21
import Derived.Test.YtlhhhlimjajnlaaGreatSSp15
import Derived.Test.YtlhhhlimjajnlaaGreatSSp16
import Derived.Test.YtlhhhlimjajnlaaGreatSSp5
import Derived.Test.YtlhhhlimjajnlaaGreatSSp22
import Derived.Test.YtlhhhlimjajnlaaGreatSSp10
import Derived.Test.YtlhhhlimjajnlaaGreatSSp9
section
set_option linter.unusedVariables false
set_option linter.unusedSimpArgs false
namespace Go.Proofs.YtlhhhlimjajnlaaGreat.P11
open Go Go.RowKit Go.Proofs.YtlhhhlimjajnlaaGreat Go.Proofs.YtlhhhlimjajnlaaGreat.Q Go.Proofs.YtlhhhlimjajnlaaGreatW.PrintWords Go.Proofs.YtlhhhlimjajnlaaGreat.X Go.Proofs.YtlhhhlimjajnlaaGreat.RefE
def lessN (n : Nat) : Int := if n = 2 then 192 else if n = 3 then 224 else if n = 4 then 240 else 0
def codeGo : Int → List UInt8 → Int
 | c, [] => c
 | c, b :: t => codeGo (c * 64 + (b.toNat : Int) - 128) t
def refCode (n : Nat) : List UInt8 → Int
 | [] => 0
 | b :: t => codeGo ((b.toNat : Int) - lessN n) (t.take (n - 1))
theorem refCode_enc (c : Int) (hp : pointB c = true) (t : List UInt8) : refCode (sizeN c).toNat (encL c ++ t) = c := by
 have hb := point_range hp
 unfold encL sizeN
 rw [if_pos hp]
 by_cases h1 : c < 128
 ·rw [if_pos h1, if_pos h1]
  have e0 := byteI_nat c hb.1 (by omega)
  show codeGo ((byteI c).toNat - lessN 1) [] = c
  rw [codeGo, show lessN 1 = 0 from rfl]; omega
 rw [if_neg h1, if_neg h1]
 by_cases h2 : c < 2048
 ·rw [if_pos h2, if_pos h2]
  have e0 := byteI_nat (192 + c / 64) (by omega) (by omega)
  have e1 := byteI_nat (128 + c % 64) (by omega) (by omega)
  show codeGo ((byteI (192 + c / 64)).toNat - lessN 2) [byteI (128 + c % 64)] = c
  rw [codeGo, codeGo, show lessN 2 = 192 from rfl]; omega
 rw [if_neg h2, if_neg h2]
 by_cases h3 : c < 65536
 ·rw [if_pos h3, if_pos h3]
  have e0 := byteI_nat (224 + c / 4096) (by omega) (by omega)
  have e1 := byteI_nat (128 + c / 64 % 64) (by omega) (by omega)
  have e2 := byteI_nat (128 + c % 64) (by omega) (by omega)
  show codeGo ((byteI (224 + c / 4096)).toNat - lessN 3) [byteI (128 + c / 64 % 64), byteI (128 + c % 64)] = c
  rw [codeGo, codeGo, codeGo, show lessN 3 = 224 from rfl]; omega
 rw [if_neg h3, if_neg h3]
 have e0 := byteI_nat (240 + c / 262144) (by omega) (by omega)
 have e1 := byteI_nat (128 + c / 4096 % 64) (by omega) (by omega)
 have e2 := byteI_nat (128 + c / 64 % 64) (by omega) (by omega)
 have e3 := byteI_nat (128 + c % 64) (by omega) (by omega)
 show codeGo ((byteI (240 + c / 262144)).toNat - lessN 4) [byteI (128 + c / 4096 % 64), byteI (128 + c / 64 % 64), byteI (128 + c % 64)] = c
 rw [codeGo, codeGo, codeGo, codeGo, show lessN 4 = 240 from rfl]; omega
def tryN (n : Nat) (l : List UInt8) : Bool := decide (encL (refCode n l) ≠ []) && (encL (refCode n l) == l.take n)
theorem try_yes (n : Nat) (l : List UInt8) (hn : n ≤ l.length) (h : tryN n l = true) : decL l = (refCode n l, (n : Int)) := by
 unfold tryN at h
 simp only [Bool.and_eq_true, decide_eq_true_eq, beq_iff_eq] at h
 obtain ⟨h1, h2⟩ := h
 have hp : pointB (refCode n l) = true := by
  by_cases hp : pointB (refCode n l) = true
  ·exact hp
  ·exact absurd ((enc_nil _).2 (by simpa using hp)) h1
 have hl := enc_len _ hp
 have hd := dec_enc _ hp (l.drop n)
 rw [h2, List.take_append_drop] at hd
 rw [hd]
 congr 1
 rw [← hl, h2, List.length_take]
 omega
theorem try_at (l : List UInt8) (h : ¬ (decL l).2 = 0) : tryN (decL l).2.toNat l = true ∧ 1 ≤ (decL l).2.toNat ∧ (decL l).2.toNat ≤ 4 ∧ (decL l).2.toNat ≤ l.length := by
 obtain ⟨hp, hs, t, ht⟩ := enc_dec l h
 have hr := dec_range l
 have hl := enc_len _ hp
 refine ⟨?_, by omega, by omega, by omega⟩
 have hc : refCode (decL l).2.toNat l = (decL l).1 := by
  have := refCode_enc _ hp t
  rw [← ht, ← hs] at this
  exact this
 unfold tryN
 rw [hc]
 simp only [Bool.and_eq_true, decide_eq_true_eq, beq_iff_eq]
 refine ⟨fun e => ?_, ?_⟩
 ·rw [e] at hl
  have := sizeN_range (decL l).1
  simp at hl; omega
 ·have : l.take (decL l).2.toNat = (encL (decL l).1 ++ t).take (decL l).2.toNat := by rw [← ht]
  rw [this, hs, ← hl, Int.toNat_natCast, List.take_left]
def triesFrom (l : List UInt8) : Nat → Nat → Int × Int
 | 0, _ => (-1, 0)
 | d + 1, n => if n ≤ l.length then (if tryN n l then (refCode n l, (n : Int)) else triesFrom l d (n + 1)) else (-1, 0)
theorem tries_eq (l : List UInt8) : triesFrom l 4 1 = decL l := by
 have hno : ∀ d n, n + d = 5 → (∀ m, 1 ≤ m → m < n → tryN m l = true → ¬ m ≤ l.length) → triesFrom l d n = decL l := by
  intro d
  induction d with
  | zero =>
   intro n hn h
   rw [triesFrom]
   by_cases h0 : (decL l).2 = 0
   ·exact (dec_none l h0).symm
   ·obtain ⟨a, b, c, e⟩ := try_at l h0
    exact absurd e (h _ b (by omega) a)
  | succ d ih =>
   intro n hn h
   rw [triesFrom]
   by_cases hl : n ≤ l.length
   ·rw [if_pos hl]
    by_cases ht : tryN n l = true
    ·rw [if_pos ht]
     exact (try_yes n l hl ht).symm
    ·rw [if_neg ht]
     refine ih (n + 1) (by omega) fun m h1 h2 h3 => ?_
     by_cases hm : m = n
     ·subst hm; exact absurd h3 ht
     ·exact h m h1 (by omega) h3
   ·rw [if_neg hl]
    by_cases h0 : (decL l).2 = 0
    ·exact (dec_none l h0).symm
    ·obtain ⟨a, b, c, e⟩ := try_at l h0
     by_cases hm : (decL l).2.toNat < n
     ·exact absurd e (h _ b hm a)
     ·omega
 exact hno 4 1 rfl fun m h1 h2 => by omega
theorem code_bound : ∀ (t : List UInt8) (c : Int), t.length ≤ 3 → -1000 ≤ c → c ≤ 1000 → -300000000 ≤ codeGo c t ∧ codeGo c t ≤ 300000000 := by
 intro t c h h0 h1
 match t, h with
 | [], _ => rw [codeGo]; omega
 | [x], _ => have := x.toNat_lt; rw [codeGo, codeGo]; omega
 | [x, y], _ => have := x.toNat_lt; have := y.toNat_lt; rw [codeGo, codeGo, codeGo]; omega
 | [x, y, z], _ => have := x.toNat_lt; have := y.toNat_lt; have := z.toNat_lt; rw [codeGo, codeGo, codeGo, codeGo]; omega
def endOf (k : Nat) (s : ByteArray) (a n : Nat) (code : Int) : Option (Int × Int) :=
 if encL code = [] then R1_Rune.l0 k s a ((n : Int) + 1) else if encL code = (s.data.toList.drop a).take n then some (code, (n : Int)) else R1_Rune.l0 k s a ((n : Int) + 1)
theorem rune_l1 (s : ByteArray) (a n : Nat) (hs : s.size ≤ 4294967296) (hn : n ≤ 4) (ha : a + n ≤ s.size) (d : Nat) : ∀ (i k : Nat) (c : Int), i + d = n → 1 ≤ i → i ≤ 4 → -300000000 ≤ c → c ≤ 300000000 →
 (∀ j, j ≤ d → -300000000 ≤ codeGo c ((s.data.toList.drop (a + i)).take j) ∧ codeGo c ((s.data.toList.drop (a + i)).take j) ≤ 300000000) →
 R1_Rune.l1 (k + d + 1) s a n c i = endOf k s a n (codeGo c ((s.data.toList.drop (a + i)).take d)) := by
 induction d with
 | zero =>
  intro i k c hi h1 h4 hc0 hc1 hall
  rw [R1_Rune.l1, if_neg (by omega), encode_f, Option.bind_some, List.take_zero, codeGo, Lib.toList_data]
  unfold endOf
  have hdat : (⟨(encL c).toArray⟩ : ByteArray).data.toList = encL c := rfl
  rw [hdat, wr ((n : Int) + 1) (by omega) (by omega)]
  by_cases he : encL c = []
  ·rw [if_pos he, if_pos he]
  rw [if_neg he, if_neg he, if_pos (by omega), wr ((a : Int) + (n : Int)) (by omega) (by omega), if_pos (by omega), if_pos (by omega), Lib.extract_toList, Int.toNat_natCast, show ((a : Int) + (n : Int)).toNat - a = n from by omega]
 | succ d ih =>
  intro i k c hi h1 h4 hc0 hc1 hall
  have hlt : a + i < s.size := by omega
  rw [show k + (d + 1) + 1 = (k + d + 1) + 1 from by omega, R1_Rune.l1, if_pos (by omega)]
  have hw : wrap64 ((a : Int) + (i : Int)) = ((a + i : Nat) : Int) := by rw [wr _ (by omega) (by omega)]; omega
  rw [hw, if_pos (by omega), if_pos (by omega), if_neg (by omega), bt_get s _ hlt, drop_cons s _ hlt, List.take_succ_cons, codeGo]
  obtain ⟨x, hx⟩ : ∃ x, s[a + i] = x := ⟨_, rfl⟩
  rw [hx]
  have hxl := x.toNat_lt
  have hall' : ∀ j, j ≤ d → -300000000 ≤ codeGo (c * 64 + (x.toNat : Int) - 128) ((s.data.toList.drop (a + i + 1)).take j) ∧ codeGo (c * 64 + (x.toNat : Int) - 128) ((s.data.toList.drop (a + i + 1)).take j) ≤ 300000000 := by
   intro j hj
   have := hall (j + 1) (by omega)
   rw [drop_cons s _ hlt, List.take_succ_cons, codeGo, hx] at this
   exact this
  have h0 := hall' 0 (by omega)
  rw [List.take_zero, codeGo] at h0
  rw [wr (c * 64) (by omega) (by omega), wr (x.toNat : Int) (by omega) (by omega), wr (c * 64 + (x.toNat : Int)) (by omega) (by omega), wr (c * 64 + (x.toNat : Int) - 128) (by omega) (by omega), wr ((i : Int) + 1) (by omega) (by omega)]
  have := ih (i + 1) k (c * 64 + (x.toNat : Int) - 128) (by omega) (by omega) (by omega) h0.1 h0.2 hall'
  rw [show ((i + 1 : Nat) : Int) = (i : Int) + 1 from by omega, show a + (i + 1) = a + i + 1 from by omega] at this
  exact this
theorem rune_try (s : ByteArray) (a n : Nat) (hs : s.size ≤ 4294967296) (h1 : 1 ≤ n) (hn : n ≤ 4) (ha : a + n ≤ s.size) (k : Nat) :
 R1_Rune.l1 (k + n + 2) s a n 0 0 = endOf k s a n (refCode n (s.data.toList.drop a)) := by
 have hlt : a < s.size := by omega
 rw [R1_Rune.l1, if_pos (by omega)]
 have hw : wrap64 ((a : Int) + 0) = (a : Int) := by rw [wr _ (by omega) (by omega)]; omega
 rw [hw, if_pos (by omega), if_pos (by omega), if_pos rfl, bt_get s _ hlt, drop_cons s _ hlt]
 obtain ⟨x, hx⟩ : ∃ x, s[a] = x := ⟨_, rfl⟩
 rw [hx]
 have hxl := x.toNat_lt
 rw [wr (x.toNat : Int) (by omega) (by omega)]
 have hless : 0 ≤ lessN n ∧ lessN n ≤ 240 := by unfold lessN; repeat' split <;> omega
 have hj : ∀ y : Int, (n ≠ 3 → n ≠ 4 → y = lessN n) → R1_Rune.j4 (k + n + 1) s a n 0 (x.toNat : Int) y = R1_Rune.l1 (k + n) s a n ((x.toNat : Int) - lessN n) 1 := by
  intro y hy
  rw [R1_Rune.j4]
  by_cases h3 : n = 3
  ·subst h3
   rw [if_pos (by omega), if_neg (by omega), wr _ (by omega) (by omega), wr _ (by omega) (by omega)]
   rfl
  ·rw [if_neg (by omega)]
   by_cases h4 : n = 4
   ·subst h4
    rw [if_pos (by omega), wr _ (by omega) (by omega), wr _ (by omega) (by omega)]
    rfl
   ·rw [if_neg (by omega), hy h3 h4, wr _ (by omega) (by omega), wr _ (by omega) (by omega)]
    rfl
 have hfin : R1_Rune.l1 (k + n) s a n ((x.toNat : Int) - lessN n) 1 = endOf k s a n (refCode n (x :: s.data.toList.drop (a + 1))) := by
  have hb : ∀ j, j ≤ n - 1 → -300000000 ≤ codeGo ((x.toNat : Int) - lessN n) ((s.data.toList.drop (a + 1)).take j) ∧ codeGo ((x.toNat : Int) - lessN n) ((s.data.toList.drop (a + 1)).take j) ≤ 300000000 :=
   fun j hj => code_bound _ _ (by rw [List.length_take]; omega) (by omega) (by omega)
  have := rune_l1 s a n hs hn ha (n - 1) 1 k ((x.toNat : Int) - lessN n) (by omega) (by omega) (by omega) (by omega) (by omega) hb
  rw [show k + (n - 1) + 1 = k + n from by omega] at this
  exact this
 by_cases h2 : n = 2
 ·subst h2
  rw [if_pos (by rfl), hj 192 (fun _ _ => rfl), hfin]
 ·rw [if_neg (by omega), hj 0 (fun h3 h4 => by unfold lessN; rw [if_neg h2, if_neg h3, if_neg h4]), hfin]
theorem rune_l0 (s : ByteArray) (a : Nat) (hs : s.size ≤ 4294967296) (ha : a < s.size) (d : Nat) : ∀ (n k : Nat), n + d = 5 → 1 ≤ n → 10 * d + 2 ≤ k →
 R1_Rune.l0 k s a n = some (triesFrom (s.data.toList.drop a) d n) := by
 have hlen : (s.data.toList.drop a).length = s.size - a := by rw [List.length_drop, len_data]
 induction d with
 | zero =>
  intro n k hn h1 hk
  obtain ⟨k, rfl⟩ : ∃ m, k = m + 2 := ⟨k - 2, by omega⟩
  rw [R1_Rune.l0, if_neg (by omega), R1_Rune.j2, if_neg (by decide), triesFrom]
 | succ d ih =>
  intro n k hn h1 hk
  obtain ⟨k, rfl⟩ : ∃ m, k = m + n + 4 := ⟨k - n - 4, by omega⟩
  rw [R1_Rune.l0, if_pos (by omega), wr ((s.size : Int) - (a : Int)) (by omega) (by omega), triesFrom]
  by_cases hl : n ≤ (s.data.toList.drop a).length
  ·rw [if_pos hl, show decide ((n : Int) ≤ (s.size : Int) - (a : Int)) = true from by simp; omega, R1_Rune.j2, if_pos rfl, rune_try s a n hs h1 (by omega) (by omega)]
   unfold endOf
   have hr := ih (n + 1) k (by omega) (by omega) (by omega)
   rw [show ((n + 1 : Nat) : Int) = (n : Int) + 1 from by omega] at hr
   by_cases he : encL (refCode n (s.data.toList.drop a)) = []
   ·have ht : tryN n (s.data.toList.drop a) = false := by unfold tryN; simp [he]
    rw [if_pos he, ht, hr]; rfl
   ·rw [if_neg he]
    by_cases he2 : encL (refCode n (s.data.toList.drop a)) = (s.data.toList.drop a).take n
    ·have ht : tryN n (s.data.toList.drop a) = true := by unfold tryN; simp [he, ← he2]
     rw [if_pos he2, ht]; rfl
    ·have ht : tryN n (s.data.toList.drop a) = false := by unfold tryN; simp [he2]
     rw [if_neg he2, ht, hr]; rfl
  ·rw [if_neg hl, show decide ((n : Int) ≤ (s.size : Int) - (a : Int)) = false from by simp; omega, R1_Rune.j2, if_neg (by decide)]
theorem ref_rune_f (s : ByteArray) (a : Int) (hs : s.size ≤ 4294967296) (k : Nat) : R1_Rune.f (k + 43) s a = some (runeP s.data.toList a) := by
 have hl := len_data s
 unfold R1_Rune.f runeP
 by_cases h0 : a < 0
 ·rw [if_pos h0, R1_Rune.j0, if_pos rfl, if_neg (by omega)]
 rw [if_neg h0]
 by_cases h1 : a ≥ (s.size : Int)
 ·rw [show decide (a ≥ (s.size : Int)) = true from by simpa using h1, R1_Rune.j0, if_pos rfl, if_neg (by omega)]
 ·obtain ⟨n, rfl⟩ := Int.eq_ofNat_of_zero_le (by omega : 0 ≤ a)
  rw [show decide ((n : Int) ≥ (s.size : Int)) = false from by simpa using h1, R1_Rune.j0, if_neg (by decide), if_pos (by omega), Int.toNat_natCast]
  have := rune_l0 s n hs (by omega) 4 1 (k + 42) rfl (by omega) (by omega)
  rw [tries_eq] at this
  exact this
theorem ref_valid_l0 (s : ByteArray) (hs : s.size ≤ 4294967296) (d : Nat) : ∀ (n k : Nat), s.size - n = d → n ≤ s.size → d + 50 ≤ k → R1_Valid.l0 k s n = some (validL (s.data.toList.drop n)) := by
 induction d using Nat.strongRecOn with
 | ind d ih =>
  intro n k hd hn hk
  obtain ⟨k, rfl⟩ : ∃ m, k = m + 1 := ⟨k - 1, by omega⟩
  rw [R1_Valid.l0]
  by_cases hlt : n < s.size
  ·rw [if_pos (by omega), show k = (k - 43) + 43 from by omega, ref_rune_f s n hs, Option.bind_some, allowed_f, Option.bind_some, valid_at s n hlt]
   have hp : runeP s.data.toList (n : Int) = decL (s.data.toList.drop n) := by
    unfold runeP
    rw [if_pos ⟨by omega, by rw [len_data]; omega⟩, Int.toNat_natCast]
   have hr := dec_range (s.data.toList.drop n)
   rw [← hp, List.length_drop, len_data] at hr
   by_cases h0 : (runeP s.data.toList (n : Int)).2 = 0
   ·rw [if_pos h0, h0]; rfl
   ·rw [if_neg h0, show decide (0 < (runeP s.data.toList (n : Int)).2) = true from by simp; omega, Bool.true_and]
    by_cases ha : allowedB (runeP s.data.toList (n : Int)).1 = true
    ·rw [if_pos ha, ha, Bool.true_and, wr _ (by omega) (by omega), show (n : Int) + (runeP s.data.toList (n : Int)).2 = ((n + (runeP s.data.toList (n : Int)).2.toNat : Nat) : Int) from by omega]
     exact ih _ (by omega) _ _ rfl (by omega) (by omega)
    ·rw [if_neg ha, show allowedB (runeP s.data.toList (n : Int)).1 = false from by simpa using ha]; rfl
  ·rw [if_neg (by omega), List.drop_of_length_le (by rw [len_data]; omega)]; rfl
theorem ref_valid_f (s : ByteArray) (hs : s.size ≤ 4294967296) (k : Nat) : R1_Valid.f (s.size + 50 + k) s = some (validL s.data.toList) :=
 ref_valid_l0 s hs s.size 0 _ (by omega) (by omega) (by omega)
theorem nat_of_bt (s : ByteArray) (n : Nat) (h : n < s.size) (c : UInt8) (hc : s[n] = c) : bt s (n : Int) = (c.toNat : Int) := by rw [bt_get s n h, hc]
theorem ref_space_f (c : UInt8) : R1_Space.f (c.toNat : Int) = some (spaceB c) := by
 unfold R1_Space.f spaceB
 repeat' split
 all_goals
  congr 1
  rw [Bool.eq_iff_iff]
  simp
  omega
theorem ref_skip_l0 (s : ByteArray) (hs : s.size ≤ 4294967296) (d : Nat) : ∀ (n k : Nat), s.size - n = d → n ≤ s.size → 2 * d + 2 ≤ k → R1_Skip.l0 k s n = some ((n : Int) + ((s.data.toList.drop n).takeWhile spaceB).length) := by
 induction d with
 | zero =>
  intro n k hd hn hk
  obtain ⟨k, rfl⟩ : ∃ m, k = m + 2 := ⟨k - 2, by omega⟩
  rw [R1_Skip.l0, if_pos (by omega), show decide ((n : Int) < (s.size : Int)) = false from by simp; omega, R1_Skip.j1, if_neg (by decide), List.drop_of_length_le (by rw [len_data]; omega)]
  simp
 | succ d ih =>
  intro n k hd hn hk
  obtain ⟨k, rfl⟩ : ∃ m, k = m + 2 := ⟨k - 2, by omega⟩
  have hlt : n < s.size := by omega
  rw [R1_Skip.l0, if_pos (by omega), show decide ((n : Int) < (s.size : Int)) = true from by simp; omega, R1_Skip.j1, if_pos rfl, if_pos (by omega), if_pos (by omega), drop_cons s n hlt]
  obtain ⟨c, hc⟩ : ∃ c, s[n] = c := ⟨_, rfl⟩
  rw [nat_of_bt s n hlt c hc, ref_space_f, Option.bind_some, hc]
  by_cases h : spaceB c = true
  ·rw [if_pos h, List.takeWhile_cons_of_pos h, wr _ (by omega) (by omega)]
   have := ih (n + 1) k (by omega) (by omega) (by omega)
   rw [show ((n + 1 : Nat) : Int) = (n : Int) + 1 from by omega] at this
   rw [this, List.length_cons]
   congr 1
   omega
  ·rw [if_neg h, List.takeWhile_cons_of_neg h]
   simp
theorem ref_skip_f (s : ByteArray) (a : Int) (hs : s.size ≤ 4294967296) (k : Nat) : R1_Skip.f (2 * s.size + 2 + k) s a = some (skipP s.data.toList a) := by
 unfold R1_Skip.f skipP
 have hl := len_data s
 by_cases h0 : 0 ≤ a ∧ a ≤ s.size
 ·obtain ⟨n, rfl⟩ := Int.eq_ofNat_of_zero_le h0.1
  rw [ref_skip_l0 s hs (s.size - n) n _ rfl (by omega) (by omega), Int.toNat_natCast]
  by_cases h1 : (n : Int) < (s.data.toList.length : Int)
  ·rw [if_pos ⟨h0.1, h1⟩]
  ·rw [if_neg (fun h => h1 h.2), List.drop_of_length_le (by omega)]
   simp
 ·rw [if_neg (by omega)]
  rw [show 2 * s.size + 2 + k = (2 * s.size + k) + 2 from by omega, R1_Skip.l0]
  by_cases h2 : a ≥ 0
  ·rw [if_pos h2, show decide (a < (s.size : Int)) = false from by simp; omega, R1_Skip.j1, if_neg (by decide)]
  ·rw [if_neg h2, R1_Skip.j1, if_neg (by decide)]
set_option maxHeartbeats 4000000 in
theorem ref_name_step (s : ByteArray) (a : Int) (n : Nat) (hs : s.size ≤ 4294967296) (hlt : n < s.size) (c : UInt8) (hc : s[n] = c) (k : Nat) :
 R1_NameEnd.l0 (k + 2) s a n = if nameB c = true ∨ (moreB c = true ∧ (n : Int) ≠ a) then R1_NameEnd.l0 k s a ((n + 1 : Nat) : Int) else some (n : Int) := by
 have hw : wrap64 ((n : Int) + 1) = ((n + 1 : Nat) : Int) := by rw [wr _ (by omega) (by omega)]; omega
 rw [R1_NameEnd.l0, if_pos (by omega), show decide ((n : Int) < (s.size : Int)) = true from by simp; omega, R1_NameEnd.j1, if_pos rfl, if_pos (by omega), if_pos (by omega), nat_of_bt s n hlt c hc, hw]
 have hcl := c.toNat_lt
 unfold nameB moreB
 simp only [decide_eq_true_eq]
 generalize R1_NameEnd.l0 k s a ((n + 1 : Nat) : Int) = A
 generalize c.toNat = v at *
 clear hw hc hs hlt
 repeat' (first | (exfalso; omega) | split)
 all_goals rfl
theorem ref_name_l0 (s : ByteArray) (a : Int) (hs : s.size ≤ 4294967296) (d : Nat) : ∀ (n k : Nat), s.size - n = d → n ≤ s.size → a < n → 2 * d + 2 ≤ k → R1_NameEnd.l0 k s a n = some ((n : Int) + ((s.data.toList.drop n).takeWhile fun c => nameB c || moreB c).length) := by
 induction d with
 | zero =>
  intro n k hd hn ha hk
  obtain ⟨k, rfl⟩ : ∃ m, k = m + 2 := ⟨k - 2, by omega⟩
  rw [R1_NameEnd.l0, if_pos (by omega), show decide ((n : Int) < (s.size : Int)) = false from by simp; omega, R1_NameEnd.j1, if_neg (by decide), List.drop_of_length_le (by rw [len_data]; omega)]
  simp
 | succ d ih =>
  intro n k hd hn ha hk
  obtain ⟨k, rfl⟩ : ∃ m, k = m + 2 := ⟨k - 2, by omega⟩
  have hlt : n < s.size := by omega
  obtain ⟨c, hc⟩ : ∃ c, s[n] = c := ⟨_, rfl⟩
  rw [ref_name_step s a n hs hlt c hc, drop_cons s n hlt, hc]
  by_cases h : (nameB c || moreB c) = true
  ·rw [List.takeWhile_cons_of_pos (p := fun c => nameB c || moreB c) h, if_pos (by
    simp only [Bool.or_eq_true] at h
    exact h.imp_right fun h => ⟨h, by omega⟩), ih (n + 1) k (by omega) (by omega) (by omega) (by omega), List.length_cons]
   congr 1
   omega
  ·rw [List.takeWhile_cons_of_neg (p := fun c => nameB c || moreB c) h, if_neg (fun h' => h (by
    simp only [Bool.or_eq_true]
    exact h'.imp_right fun h => h.1))]
   simp
theorem ref_name_f (s : ByteArray) (a : Int) (hs : s.size ≤ 4294967296) (k : Nat) : R1_NameEnd.f (2 * s.size + 2 + k) s a = some (nameEndP s.data.toList a) := by
 unfold R1_NameEnd.f nameEndP
 have hl := len_data s
 by_cases h0 : 0 ≤ a ∧ a < s.size
 ·obtain ⟨n, rfl⟩ := Int.eq_ofNat_of_zero_le h0.1
  have hlt : n < s.size := by omega
  obtain ⟨c, hc⟩ : ∃ c, s[n] = c := ⟨_, rfl⟩
  rw [if_pos ⟨h0.1, by omega⟩, Int.toNat_natCast, show 2 * s.size + 2 + k = (2 * s.size + k) + 2 from by omega, ref_name_step s n n hs hlt c hc, drop_cons s n hlt, hc]
  simp only [nameLen]
  by_cases hn : nameB c = true
  ·rw [if_pos (.inl hn), if_pos hn, ref_name_l0 s n hs (s.size - (n + 1)) (n + 1) _ rfl (by omega) (by omega) (by omega)]
   congr 1
   omega
  ·rw [if_neg (by simp [hn]), if_neg hn]
   simp
 ·rw [if_neg (by omega), show 2 * s.size + 2 + k = (2 * s.size + k) + 2 from by omega, R1_NameEnd.l0]
  by_cases h2 : a ≥ 0
  ·rw [if_pos h2, show decide (a < (s.size : Int)) = false from by simp; omega, R1_NameEnd.j1, if_neg (by decide)]
  ·rw [if_neg h2, R1_NameEnd.j1, if_neg (by decide)]
theorem name_f (s : ByteArray) (hs : s.size ≤ 4294967296) : chars_Name.f s = some (if s.data.toList = [] then false else nameEndP s.data.toList 0 == (s.size : Int)) := by
 unfold chars_Name.f
 rw [Lib.toList_data]
 by_cases h : s.data.toList = []
 ·rw [if_pos h, if_pos h]
 ·rw [if_neg h, if_neg h, chars_NameEnd.f, if_pos hs]; rfl
end Go.Proofs.YtlhhhlimjajnlaaGreat.P11
end
section
set_option linter.unusedVariables false
set_option linter.unusedSimpArgs false
namespace Go.Proofs.YtlhhhlimjajnlaaGreat.X
open Go.RowKit Go.Proofs.YtlhhhlimjajnlaaGreat Go.Proofs.YtlhhhlimjajnlaaGreat.Q Go.Proofs.YtlhhhlimjajnlaaGreat.P11 Go.Proofs.YtlhhhlimjajnlaaGreatW.PrintWords Go.Proofs.YtlhhhlimjajnlaaGreatW.PrintLast Go.Proofs.YtlhhhlimjajnlaaGreatW.PrintMore
variable {w0 W : World} {g : Nat} {d : ByteArray} {a : Int} {ts : List Tok} {x : Bool}
def LexRel (d : ByteArray) (P : Option (List Tok)) (a : Int) (acc : List Tok) : Prop :=
 0 ≤ a ∧ a ≤ (d.size : Int) ∧ (acc.length : Int) ≤ a ∧ ∃ n : Nat, (d.size : Int) - a < n ∧ P = lexF d n a acc
theorem Rd.new (w W : World) (d : ByteArray) (hB : Below w.heap.size w W) : Rd w (W.alloc (.cells #[.string d, .int .i64 0, .slice none 0 0, .bool false] 91)) W.heap.size d 0 [] false :=
 ⟨.slice none 0 0, by simpa using heap_alloc_new W _, hB.size, Kd.R_nil _ _ _ _ _, below_alloc hB _⟩
theorem enters5 : (∀ a w, Sem.run Tryz.prog (callFunc 79 a) w = .ok (.enter 79 a) w) ∧ (∀ a w, Sem.run Tryz.prog (callFunc 80 a) w = .ok (.enter 80 a) w) ∧ (∀ a w, Sem.run Tryz.prog (callFunc 81 a) w = .ok (.enter 81 a) w) ∧ (∀ a w, Sem.run Tryz.prog (callFunc 82 a) w = .ok (.enter 82 a) w) ∧ (∀ a w, Sem.run Tryz.prog (callFunc 83 a) w = .ok (.enter 83 a) w) :=
 ⟨fun _ _ => by kernel_rfl, fun _ _ => by kernel_rfl, fun _ _ => by kernel_rfl, fun _ _ => by kernel_rfl, fun _ _ => by kernel_rfl⟩
theorem goes_on (w : World) (h : Rd w0 w g d a ts false) (hG : G w0) (hl : ts.length ≤ 100000) (hs : d.size ≤ 65536) (h0 : 0 ≤ a) (h1 : a < (d.size : Int)) :
 Calls Tryz.prog (nextK d a) #[.pointer (some ⟨g, 0, none⟩)] w fun e w' => e = .returned (.tuple #[]) ∧ Step w0 w' g d ts (stepP d a) := by
 have hr := fun s hs c => stands_room2 d a s h0 hs c
 unfold nextK stepP
 by_cases c1 : standsB d a ⟨#[60, 33, 45, 45]⟩ = true
 ·rw [if_pos c1, if_pos c1]
  have := hr _ (by decide) c1
  rw [show ((⟨#[60, 33, 45, 45]⟩ : ByteArray).size : Int) = 4 from rfl] at this
  exact comment_c w h hG (by omega) (by omega) h0 this
 rw [if_neg c1, if_neg c1]
 by_cases c2 : standsB d a ⟨#[60, 33, 91, 67, 68, 65, 84, 65, 91]⟩ = true
 ·rw [if_pos c2, if_pos c2]
  have := hr _ (by decide) c2
  rw [show ((⟨#[60, 33, 91, 67, 68, 65, 84, 65, 91]⟩ : ByteArray).size : Int) = 9 from rfl] at this
  exact plain_c w h hG (by omega) (by omega) h0 this
 rw [if_neg c2, if_neg c2]
 by_cases c3 : standsB d a ⟨#[60, 47]⟩ = true
 ·rw [if_pos c3, if_pos c3]
  have := hr _ (by decide) c3
  rw [show ((⟨#[60, 47]⟩ : ByteArray).size : Int) = 2 from rfl] at this
  exact closing_c w h (by omega) (by omega) h0 this
 rw [if_neg c3, if_neg c3]
 by_cases c4 : standsB d a ⟨#[60]⟩ = true
 ·rw [if_pos c4, if_pos c4]
  exact tag_c w h hG hl (by omega) h0 (by omega)
 rw [if_neg c4, if_neg c4]
 exact text_c w h hG (by omega) (by omega) h0 (by omega)
theorem enters_next (d : ByteArray) (p : Int) (a : Array Value) (w : World) : Sem.run Tryz.prog (callFunc (nextK d p) a) w = .ok (.enter (nextK d p) a) w := by
 obtain ⟨e1, e2, e3, e4, e5⟩ := enters5
 unfold nextK
 split
 ·exact e1 a w
 ·split
  ·exact e2 a w
  ·split
   ·exact e3 a w
   ·split
    ·exact e4 a w
    ·exact e5 a w
set_option maxHeartbeats 16000000 in
set_option maxRecDepth 100000 in
theorem lex_c (w : World) (hG : G w) (d : ByteArray) (hs : d.size ≤ 4294967280) :
 Calls Tryz.prog 25 #[.string d] w fun e w' => ∃ v, e = .returned (.tuple #[v, .int .i64 (lexV d).2]) ∧ Kd.R k51 51 w' w.heap.size (fun _ => True) v (lexV d).1 ∧ Below w.heap.size w w' := by
 obtain ⟨V, hV⟩ : ∃ V, lexV d = V := ⟨_, rfl⟩
 rw [hV]
 unfold lexV at hV
 by_cases c1 : (65536 : Int) < (d.size : Int)
 ·rw [if_pos c1] at hV
  subst hV
  have b1 : decide ((65536 : Int) < (d.size : Int)) = true := decide_eq_true c1
  have b2 := eq_true c1
  go_enter Tryz.func25, Tryz.ntmps25
  go_wp2
  first | go_ret | go_ret2 | go_ret3
  exact ⟨_, rfl, Kd.R_nil _ _ _ _ _, zz21⟩
 rw [if_neg c1] at hV
 have b1 : decide ((65536 : Int) < (d.size : Int)) = false := decide_eq_false c1
 have b2 := eq_false c1
 have hsz : d.size ≤ 65536 := by omega
 clear c1
 have hVa : ∀ W, Calls Tryz.prog 46 #[.string d] W fun e w' => e = .returned (.bool (validL d.data.toList)) ∧ Below W.heap.size W w' := fun W => chars_Valid.calls (d.size + 2 + 0) d _ W (valid_f d (by omega) 0)
 obtain ⟨q, hq⟩ : ∃ q, validL d.data.toList = q := ⟨_, rfl⟩
 rw [hq] at hVa hV
 cases q with
 | false =>
  rw [if_pos rfl] at hV
  subst hV
  go_enter Tryz.func25, Tryz.ntmps25
  go_wp2_with (go_at_call 46; (with_reducible refine (hVa _).mono ?_); rintro e w1 ⟨rfl, hb1⟩)
  first | go_ret | go_ret2 | go_ret3
  exact ⟨_, rfl, Kd.R_nil _ _ _ _ _, by repeat (first | exact hb1 | exact Below.refl _ _ | apply pw_below_drewN | apply below_drew | apply below_alloc)⟩
 | true =>
  rw [if_neg (by decide)] at hV
  have hNE := enters_next d
  have hT : LexRel d (lexO d) 0 [] := ⟨by omega, by omega, by simp, ⟨d.size + 1, by omega, rfl⟩⟩
  have HT := Lib.hid hT
  clear hT
  go_enter Tryz.func25, Tryz.ntmps25
  go_wp2_with (go_at_call 46; (with_reducible refine (hVa _).mono ?_); rintro e w1 ⟨rfl, hb1⟩)
  have hB1 : Below w.heap.size w w1 := by repeat (first | exact hb1 | apply pw_below_drewN | apply below_drew)
  have HI := Lib.hid (Rd.new w w1 d hB1)
  obtain ⟨g, hg⟩ : ∃ g, w1.heap.size = g := ⟨_, rfl⟩
  rw [hg] at HI ⊢
  clear hb1 hB1
  go_loopw [5] (fun t wr => (Hid (lexO d = none) ∧ ∃ p ts', Hid (Rd w wr g d p ts' true)) ∨ (∃ p acc, Hid (LexRel d (lexO d) p acc) ∧ Hid (Rd w wr g d p acc false))) (fun t wr => ahead d g wr)
  case atStart => exact .inr ⟨_, _, HT, HI⟩
  case round =>
   clear HI HT
   rcases hrel with ⟨hPn, p, ts', HR⟩ | ⟨p, acc, hRel, HR⟩
   ·have hc3 := HR.out.c3
    have hc1 := HR.out.c1
    rw [hPn.out] at hV
    have hV' : ([], 15) = V := hV
    subst hV'
    obtain ⟨bb, l1⟩ : ∃ bb, decide (p < (d.size : Int)) = bb := ⟨_, rfl⟩
    cases bb
    all_goals
     go_wp2
     first | go_ret | go_ret2 | go_ret3
     exact ⟨_, rfl, Kd.R_nil _ _ _ _ _, by first | exact HR.out.bel | exact (HR.out.drewN _).bel | exact HR.out.drew.bel⟩
   ·have hmeas := Lib.hid HR.out.ahead_
    obtain ⟨r1, r2, r3, n, hn, hPn⟩ := hRel.out
    have hc3 := HR.out.c3
    have hc1 := HR.out.c1
    cases n with
    | zero => omega
    | succ n =>
    unfold lexF at hPn
    by_cases hlt : p < (d.size : Int)
    ·rw [if_pos hlt] at hPn
     have l1 : decide (p < (d.size : Int)) = true := decide_eq_true hlt
     have l2 := eq_true hlt
     obtain ⟨K, hK⟩ : ∃ K, nextK d p = K := ⟨_, rfl⟩
     have hNx : ∀ W, Rd w W g d p acc false → Calls Tryz.prog 56 #[.pointer (some ⟨g, 0, none⟩)] W fun e w' => e = .returned (.func (.func K) #[.pointer (some ⟨g, 0, none⟩)] #[]) ∧ Below W.heap.size W w' := fun W h => by rw [← hK]; exact next_c W h r1
     have hGo : ∀ W, Rd w W g d p acc false → Calls Tryz.prog K #[.pointer (some ⟨g, 0, none⟩)] W fun e w' => e = .returned (.tuple #[]) ∧ Step w w' g d acc (stepP d p) := fun W h => by rw [← hK]; exact goes_on W h hG (by omega) hsz r1 hlt
     have hEn : ∀ (a : Array Value) (w : World), Sem.run Tryz.prog (callFunc K a) w = .ok (.enter K a) w := fun a w => by rw [← hK]; exact enters_next d p a w
     go_wp2_with (go_at_call 56; (with_reducible refine (hNx _ (by first | exact HR.out | exact HR.out.drewN _)).mono ?_); rintro e w3 ⟨rfl, hb_⟩; have H3 := Lib.hid (show Rd w w3 g d p acc false from by first | exact HR.out.below hb_ | exact (HR.out.drewN _).below hb_); clear hb_)
     go_wp2_with ((with_reducible refine (hGo _ (zz26)).mono ?_); rintro e w4 ⟨rfl, ht⟩)
     cases hS : stepP d p with
     | none =>
      rw [hS] at ht hPn
      obtain ⟨a', ts', ht⟩ := ht
      have HA := Lib.hid ht
      have HP := Lib.hid hPn
      clear ht hPn hV
      go_wp2
      go_roundw
      case rel => first | exact .inl ⟨HP, _, _, HA⟩ | exact .inl ⟨_, _, HA⟩
      case measure => rw [hmeas.out, HA.out.ahead_]; simp only [Bool.false_eq_true, if_false, if_true]; omega
     | some v =>
      obtain ⟨new, a'⟩ := v
      rw [hS] at ht hPn
      have hroom := step_room d p r1 hlt new a' hS
      have HA := Lib.hid (show Rd w w4 g d a' (acc ++ new) false from ht)
      have HP := Lib.hid hPn
      clear ht hPn hV
      go_wp2
      go_roundw
      case rel => exact .inr ⟨_, _, Lib.hid ⟨by omega, hroom.2.1, zz39, ⟨n, by omega, HP.out⟩⟩, HA⟩
      case measure => rw [hmeas.out, HA.out.ahead_]; simp only [Bool.false_eq_true, if_false, if_true]; omega
    ·rw [if_neg hlt] at hPn
     have l1 : decide (p < (d.size : Int)) = false := decide_eq_false hlt
     have l2 := eq_false hlt
     rw [hPn] at hV
     have hV' : (acc, 0) = V := hV
     subst hV'
     obtain ⟨v, h1, h2, h3, h4⟩ := HR.out
     obtain ⟨A, c, rfl, -, -⟩ := Kd.R_reads h3
     have hc2 : wr.cell? ⟨g, 2, none⟩ = some (.slice A acc.length c) := (blk_cell h1 2).trans rfl
     have H5 := Lib.hid h3
     have H6 := Lib.hid h4
     clear h1 h3 h4
     go_wp2
     first | go_ret | go_ret2 | go_ret3
     exact ⟨_, rfl, Kd.R_mono (by first | exact H5.out | exact Kd.R_drewN H5.out _ | exact Kd.R_drew H5.out) (fun _ _ => trivial), by first | exact H6.out | exact pw_below_drewN H6.out _⟩
def lexer_Lex.f (a0 : ByteArray) : Option (List Tok × Int) := if a0.size ≤ 4294967280 then some (lexV a0) else none
theorem lexer_Lex.calls (a0 : ByteArray) (r1 : List Tok) (r2 : Int) (w : World) (hG : G w) (h : lexer_Lex.f a0 = some (r1, r2)) :
 Calls Tryz.prog 25 #[.string a0] w fun e w' => ∃ v0_ : Value, e = .returned (.tuple #[v0_, .int .i64 r2]) ∧ Kd.R k51 51 w' w.heap.size (fun _ => True) v0_ r1 ∧ Below w.heap.size w w' := by
 unfold lexer_Lex.f at h
 split at h
 ·rename_i hs
  have h := Option.some.inj h
  have h1 : r1 = (lexV a0).1 := by rw [h]
  have h2 : r2 = (lexV a0).2 := by rw [h]
  subst h1 h2
  exact lex_c w hG a0 hs
 ·cases h
end Go.Proofs.YtlhhhlimjajnlaaGreat.X
end
section
set_option linter.unusedVariables false
set_option linter.unusedSimpArgs false
namespace Go.Proofs.YtlhhhlimjajnlaaGreat.P12
open Go Go.RowKit Go.Proofs.YtlhhhlimjajnlaaGreat Go.Proofs.YtlhhhlimjajnlaaGreat.Q Go.Proofs.YtlhhhlimjajnlaaGreatW.PrintWords Go.Proofs.YtlhhhlimjajnlaaGreat.X Go.Proofs.YtlhhhlimjajnlaaGreat.P11
def opens (k : Int) : Bool := k == 1 || k == 2
def inTag (k : Int) : Bool := k == 2 || k == 3 || k == 4
def Seg (l : List UInt8) : Int → Bool → List Tok → Int → Bool → Prop
 | a, x, [], b, y => a = b ∧ x = y
 | a, x, t :: r, b, y => a ≤ t.f1 ∧ t.f1 < t.f2 ∧ t.f2 ≤ l.length ∧ (∀ n : Nat, a ≤ n → (n : Int) < t.f1 → spaceB (l.getD n 0) = true ∧ x = true) ∧ x = inTag t.f0 ∧ Seg l t.f2 (opens t.f0) r b y
theorem Seg.append {l : List UInt8} : ∀ {r1 r2 : List Tok} {a b c : Int} {x y z : Bool}, Seg l a x r1 b y → Seg l b y r2 c z → Seg l a x (r1 ++ r2) c z
 | [], r2, a, b, c, x, y, z, h1, h2 => by
  obtain ⟨rfl, rfl⟩ := h1
  exact h2
 | t :: r1, r2, a, b, c, x, y, z, h1, h2 => by
  obtain ⟨e1, e2, e3, e4, e5, e6⟩ := h1
  exact ⟨e1, e2, e3, e4, e5, Seg.append e6 h2⟩
theorem Seg.one {l : List UInt8} {t : Tok} {a b : Int} {x : Bool} (h1 : t.f1 = a) (h2 : t.f2 = b) (h3 : a < b) (h4 : b ≤ l.length) (h5 : x = inTag t.f0) : Seg l a x [t] b (opens t.f0) := by
 refine ⟨by omega, by omega, by omega, fun n c1 c2 => by omega, h5, h2, rfl⟩
theorem skip_spaces (l : List UInt8) (a : Int) (h0 : 0 ≤ a) (n : Nat) (h1 : a ≤ n) (h2 : (n : Int) < skipP l a) : spaceB (l.getD n 0) = true := by
 unfold skipP at h2
 split at h2
 ·rename_i hc
  have hk : n - a.toNat < ((l.drop a.toNat).takeWhile spaceB).length := by omega
  have hm : ((l.drop a.toNat).takeWhile spaceB)[n - a.toNat] ∈ (l.drop a.toNat).takeWhile spaceB := List.getElem_mem hk
  have hs := List.all_eq_true.1 (List.all_takeWhile (p := spaceB) (l := l.drop a.toNat)) _ hm
  have hle := takeWhile_le spaceB (l.drop a.toNat)
  rw [List.length_drop] at hle
  have hpre : (l.drop a.toNat).takeWhile spaceB <+: l.drop a.toNat := List.takeWhile_prefix spaceB
  have he := hpre.getElem hk
  rw [he, List.getElem_drop] at hs
  rw [List.getD_eq_getElem?_getD, List.getElem?_eq_getElem (by omega)]
  simp only [Option.getD_some]
  have hidx : a.toNat + (n - a.toNat) = n := by omega
  simp only [hidx] at hs
  exact hs
 ·omega
theorem Seg.tag {l : List UInt8} {t : Tok} {a b : Int} (h0 : 0 ≤ a) (ha : a ≤ l.length) (h1 : t.f1 = skipP l a) (h2 : t.f2 = b) (h3 : skipP l a < b) (h4 : b ≤ l.length) (h5 : inTag t.f0 = true) : Seg l a true [t] b (opens t.f0) := by
 have := skipP_in l a h0 ha
 refine ⟨by omega, by omega, by omega, fun n c1 c2 => ⟨skip_spaces l a h0 n c1 (by omega), rfl⟩, h5.symm, h2, rfl⟩
theorem attr_seg (d : ByteArray) (a : Int) (h0 : 0 ≤ a) (h1 : a ≤ (d.size : Int)) (new : List Tok) (a' : Int) (h : attrP d a = some (new, a')) : Seg d.data.toList a true new a' true := by
 have hroom := attr_room d a h0 h1 new a' h
 have hsz : d.data.toList.length = d.size := (Lib.size_eq d).symm
 unfold attrP at h
 obtain ⟨F, hF⟩ : ∃ F, skipP d.data.toList a = F := ⟨_, rfl⟩
 obtain ⟨E, hE⟩ : ∃ E, nameEndP d.data.toList F = E := ⟨_, rfl⟩
 obtain ⟨Q, hQ⟩ : ∃ Q, skipP d.data.toList E = Q := ⟨_, rfl⟩
 obtain ⟨O, hO⟩ : ∃ O, skipP d.data.toList (Q + 1) = O := ⟨_, rfl⟩
 simp only [hF, hE, hQ, hO] at h
 have hF1 := skipP_in d.data.toList a (by omega) (by omega)
 rw [hF] at hF1
 have hE1 := nameEndP_in d.data.toList F (by omega) (by omega)
 rw [hE] at hE1
 have hQ1 := skipP_in d.data.toList E (by omega) (by omega)
 rw [hQ] at hQ1
 by_cases c1 : F = a
 ·rw [if_pos c1] at h; cases h
 rw [if_neg c1] at h
 by_cases c2 : E = F
 ·rw [if_pos c2] at h; cases h
 rw [if_neg c2] at h
 by_cases c3 : standsB d Q ⟨#[61]⟩ = false
 ·rw [if_pos c3] at h; cases h
 rw [if_neg c3] at h
 have hr1 := stands_room d Q 61 (by omega) (by simpa using c3)
 have hO1 := skipP_in d.data.toList (Q + 1) (by omega) (by omega)
 rw [hO] at hO1
 by_cases c4 : standsB d O ⟨#[34]⟩ = false ∧ standsB d O ⟨#[39]⟩ = false
 ·rw [if_pos c4] at h; cases h
 rw [if_neg c4] at h
 obtain ⟨c, hc⟩ : ∃ c, Lib.cut (d.data.toList.drop (O + 1).toNat) (partB d O (O + 1)).data.toList = c := ⟨_, rfl⟩
 rw [hc] at h
 by_cases c5 : c.2.2 = false
 ·rw [if_pos c5] at h; cases h
 rw [if_neg c5] at h
 by_cases c6 : 0 ≤ Lib.indexByte c.1 60
 ·rw [if_pos c6] at h; cases h
 rw [if_neg c6] at h
 cases hd : dec c.1 with
 | none => rw [hd] at h; cases h
 | some v =>
  rw [hd] at h
  injection h with h
  injection h with h2 h3
  subst h3 h2
  exact Seg.tag h0 (by omega) hF.symm rfl (by omega) (by omega) rfl
theorem attrs_seg (d : ByteArray) : ∀ (n : Nat) (a : Int) (acc r : List Tok) (a' : Int), 0 ≤ a → a ≤ (d.size : Int) → attrsF d n a acc = some (r, a') → ∃ r', r = acc ++ r' ∧ Seg d.data.toList a true r' a' false := by
 intro n
 induction n with
 | zero => intro a acc r a' _ _ h; cases h
 | succ n ih =>
  intro a acc r a' h0 h1 h
  have hsz : d.data.toList.length = d.size := (Lib.size_eq d).symm
  unfold attrsF at h
  obtain ⟨I, hI⟩ : ∃ I, skipP d.data.toList a = I := ⟨_, rfl⟩
  have hI1 := skipP_in d.data.toList a (by omega) (by omega)
  rw [hI] at hI1
  rw [hI] at h
  by_cases c1 : standsB d I ⟨#[62]⟩ = true
  ·rw [if_pos c1] at h
   have := stands_room2 d I ⟨#[62]⟩ (by omega) (by decide) c1
   rw [show ((⟨#[62]⟩ : ByteArray).size : Int) = 1 from rfl] at this
   injection h with h; injection h with h2 h3
   subst h3 h2
   exact ⟨_, rfl, Seg.tag h0 (by omega) hI.symm rfl (by omega) (by omega) rfl⟩
  rw [if_neg c1] at h
  by_cases c2 : standsB d I ⟨#[47, 62]⟩ = true
  ·rw [if_pos c2] at h
   have := stands_room2 d I ⟨#[47, 62]⟩ (by omega) (by decide) c2
   rw [show ((⟨#[47, 62]⟩ : ByteArray).size : Int) = 2 from rfl] at this
   injection h with h; injection h with h2 h3
   subst h3 h2
   exact ⟨_, rfl, Seg.tag h0 (by omega) hI.symm rfl (by omega) (by omega) rfl⟩
  rw [if_neg c2] at h
  cases hA : attrP d a with
  | none => rw [hA] at h; cases h
  | some v =>
   obtain ⟨new, p⟩ := v
   rw [hA] at h
   have hr := attr_room d a (by omega) h1 new p hA
   obtain ⟨r', e, hs⟩ := ih p (acc ++ new) r a' (by omega) hr.2.1 h
   exact ⟨new ++ r', by rw [e, List.append_assoc], (attr_seg d a h0 h1 new p hA).append hs⟩
theorem step_seg (d : ByteArray) (a : Int) (h0 : 0 ≤ a) (h1 : a < (d.size : Int)) (new : List Tok) (a' : Int) (h : stepP d a = some (new, a')) : Seg d.data.toList a false new a' false := by
 have hroom := step_room d a h0 h1 new a' h
 have hsz : d.data.toList.length = d.size := (Lib.size_eq d).symm
 unfold stepP at h
 by_cases c1 : standsB d a ⟨#[60, 33, 45, 45]⟩ = true
 ·rw [if_pos c1] at h
  unfold commentP at h
  obtain ⟨i, hi⟩ : ∃ i, Lib.index (d.data.toList.drop (a.toNat + 4)) [45, 45] = i := ⟨_, rfl⟩
  simp only [hi] at h
  by_cases c : i < 0
  ·rw [if_pos c] at h; cases h
  rw [if_neg c] at h
  by_cases c' : Lib.hasPrefix ((d.data.toList.drop (a.toNat + 4)).drop i.toNat) [45, 45, 62] = true
  ·rw [if_pos c'] at h
   injection h with h; injection h with h2 h3
   subst h3 h2
   exact Seg.one rfl rfl (by omega) (by omega) rfl
  ·rw [if_neg c'] at h; cases h
 rw [if_neg c1] at h
 by_cases c2 : standsB d a ⟨#[60, 33, 91, 67, 68, 65, 84, 65, 91]⟩ = true
 ·rw [if_pos c2] at h
  unfold plainP at h
  by_cases c : (Lib.cut (d.data.toList.drop (a.toNat + 9)) [93, 93, 62]).2.2 = true
  ·simp only [c, if_true] at h
   injection h with h; injection h with h2 h3
   subst h3 h2
   exact Seg.one rfl rfl (by omega) (by omega) rfl
  ·simp only [c] at h; cases h
 rw [if_neg c2] at h
 by_cases c3 : standsB d a ⟨#[60, 47]⟩ = true
 ·rw [if_pos c3] at h
  unfold closingP at h
  obtain ⟨E, hE⟩ : ∃ E, nameEndP d.data.toList (a + 2) = E := ⟨_, rfl⟩
  obtain ⟨T, hT⟩ : ∃ T, skipP d.data.toList E = T := ⟨_, rfl⟩
  simp only [hE, hT] at h
  by_cases c : E = a + 2
  ·rw [if_pos c] at h; cases h
  rw [if_neg c] at h
  by_cases c' : standsB d T ⟨#[62]⟩ = true
  ·rw [if_pos c'] at h
   injection h with h; injection h with h2 h3
   subst h3 h2
   exact Seg.one rfl rfl (by omega) (by omega) rfl
  ·rw [if_neg c'] at h; cases h
 rw [if_neg c3] at h
 by_cases c4 : standsB d a ⟨#[60]⟩ = true
 ·rw [if_pos c4] at h
  unfold tagP at h
  obtain ⟨E, hE⟩ : ∃ E, nameEndP d.data.toList (a + 1) = E := ⟨_, rfl⟩
  have hE1 := nameEndP_in d.data.toList (a + 1) (by omega) (by omega)
  rw [hE] at hE1
  simp only [hE] at h
  by_cases c : E = a + 1
  ·rw [if_pos c] at h; cases h
  rw [if_neg c] at h
  obtain ⟨r', e, hs⟩ := attrs_seg d _ _ _ _ _ (by omega) (by omega) h
  rw [e]
  exact Seg.append (Seg.one (t := ⟨1, a, E, partB d (a + 1) E, ⟨#[]⟩⟩) (b := E) rfl rfl (by omega) (by omega) rfl) hs
 rw [if_neg c4] at h
 unfold textP at h
 obtain ⟨b, hb⟩ : ∃ b, (Lib.cut (d.data.toList.drop a.toNat) [60]).1 = b := ⟨_, rfl⟩
 simp only [hb] at h
 cases hd : dec b with
 | none => rw [hd] at h; cases h
 | some v =>
  rw [hd] at h
  injection h with h; injection h with h2 h3
  subst h3 h2
  exact Seg.one rfl rfl (by omega) (by omega) rfl
theorem lexF_seg (s : ByteArray) (n : Nat) : ∀ (a : Int) (acc l : List Tok), 0 ≤ a → a ≤ (s.size : Int) → lexF s n a acc = some l → ∃ r, l = acc ++ r ∧ Seg s.data.toList a false r s.size false := by
 induction n with
 | zero => intro a acc l _ _ h; cases h
 | succ n ih =>
  intro a acc l h0 h1 h
  unfold lexF at h
  by_cases hlt : a < (s.size : Int)
  ·rw [if_pos hlt] at h
   cases hS : stepP s a with
   | none => rw [hS] at h; cases h
   | some v =>
    obtain ⟨new, a'⟩ := v
    rw [hS] at h
    have hroom := step_room s a h0 hlt new a' hS
    obtain ⟨r, e, hs⟩ := ih a' (acc ++ new) l (by omega) hroom.2.1 h
    exact ⟨new ++ r, by rw [e, List.append_assoc], (step_seg s a h0 hlt new a' hS).append hs⟩
  ·rw [if_neg hlt] at h
   obtain rfl := Option.some.inj h
   exact ⟨[], by simp, by omega, rfl⟩
theorem lexV_seg (s : ByteArray) (h : (lexV s).2 = 0) : Seg s.data.toList 0 false (lexV s).1 s.size false := by
 unfold lexV at h ⊢
 split
 ·rename_i c; rw [if_pos c] at h; cases h
 ·rename_i c
  rw [if_neg c] at h
  split
  ·rename_i c'; rw [if_pos c'] at h; cases h
  ·rename_i c'
   rw [if_neg c'] at h
   cases ho : lexO s with
   | none => rw [ho] at h; cases h
   | some l =>
    obtain ⟨r, e, hs⟩ := lexF_seg s _ 0 [] l (by omega) (by omega) ho
    rw [List.nil_append] at e
    subst e
    exact hs
theorem lexV_bad (s : ByteArray) (h : ¬ (lexV s).2 = 0) : (lexV s).1 = [] := by
 unfold lexV at h ⊢
 split
 ·rfl
 ·rename_i c
  rw [if_neg c] at h
  split
  ·rfl
  ·rename_i c'
   rw [if_neg c'] at h
   cases ho : lexO s with
   | none => rfl
   | some l => rw [ho] at h; exact absurd rfl h
end Go.Proofs.YtlhhhlimjajnlaaGreat.P12
end
section
set_option linter.unusedVariables false
set_option linter.unusedSimpArgs false
namespace Go.Proofs.YtlhhhlimjajnlaaGreat.X
open Go Go.RowKit Go.Proofs.YtlhhhlimjajnlaaGreat Go.Proofs.YtlhhhlimjajnlaaGreat.Q Go.Proofs.YtlhhhlimjajnlaaGreat.P11 Go.Proofs.YtlhhhlimjajnlaaGreat.P12 Go.Proofs.YtlhhhlimjajnlaaGreatW.PrintWords
theorem decF_len : ∀ (n : Nat) (l v : List UInt8), decF n l = some v → v.length ≤ 4 * l.length
 | 0, [], v, h => by obtain rfl := Option.some.inj h; simp
 | n + 1, [], v, h => by obtain rfl := Option.some.inj h; simp
 | 0, c :: t, v, h => by cases h
 | n + 1, c :: t, v, h => by
  unfold decF at h
  by_cases hc : c = 38
  ·rw [if_pos hc] at h
   by_cases he : (entL (c :: t)).2 = 0
   ·rw [if_pos he] at h; cases h
   ·rw [if_neg he] at h
    cases hr : decF n ((c :: t).drop (entL (c :: t)).2.toNat) with
    | none => rw [hr] at h; cases h
    | some u =>
     rw [hr] at h
     have h := Option.some.inj h
     have ih := decF_len n _ u hr
     have ho := entL_ok (c :: t)
     rw [List.length_drop] at ih
     rw [← h, List.length_append]
     omega
  ·rw [if_neg hc] at h
   cases hr : decF n t with
   | none => rw [hr] at h; cases h
   | some u =>
    rw [hr] at h
    have h := Option.some.inj h
    have ih := decF_len n t u hr
    rw [← h, List.length_cons, List.length_cons]
    omega
def Vals (l : List Tok) : Prop := ∀ t, t ∈ l → t.f0 = 6 → (t.f4.size : Int) ≤ 4 * (t.f2 - t.f1)
theorem attr_kind (d : ByteArray) (a : Int) (new : List Tok) (a' : Int) (h : attrP d a = some (new, a')) : ∀ t, t ∈ new → t.f0 = 2 := by
 unfold attrP at h
 simp only at h
 repeat' split at h
 all_goals first
  | (injection h with h; injection h with h2 h3; intro t ht; rw [← h2] at ht; rw [List.mem_singleton.1 ht]; done)
  | (exact absurd h (by simp))
theorem attrs_kind (d : ByteArray) : ∀ (n : Nat) (a : Int) (acc r : List Tok) (a' : Int), (∀ t, t ∈ acc → ¬ t.f0 = 6) → attrsF d n a acc = some (r, a') → ∀ t, t ∈ r → ¬ t.f0 = 6 := by
 intro n
 induction n with
 | zero => intro a acc r a' _ h; cases h
 | succ n ih =>
  intro a acc r a' hacc h
  unfold attrsF at h
  split at h
  ·injection h with h; injection h with h2 h3
   intro t ht
   rw [← h2] at ht
   rcases List.mem_append.1 ht with ht | ht
   ·exact hacc t ht
   ·rw [List.mem_singleton.1 ht]; show ¬ (3 : Int) = 6; omega
  split at h
  ·injection h with h; injection h with h2 h3
   intro t ht
   rw [← h2] at ht
   rcases List.mem_append.1 ht with ht | ht
   ·exact hacc t ht
   ·rw [List.mem_singleton.1 ht]; show ¬ (4 : Int) = 6; omega
  cases hA : attrP d a with
  | none => rw [hA] at h; cases h
  | some v =>
   obtain ⟨new, p⟩ := v
   rw [hA] at h
   refine ih p (acc ++ new) r a' (fun t ht => ?_) h
   rcases List.mem_append.1 ht with ht | ht
   ·exact hacc t ht
   ·rw [attr_kind d a new p hA t ht]; omega
theorem step_vals (d : ByteArray) (a : Int) (new : List Tok) (a' : Int) (h : stepP d a = some (new, a')) : Vals new := by
 unfold stepP at h
 split at h
 ·unfold commentP at h
  simp only at h
  split at h
  ·cases h
  split at h
  ·injection h with h; injection h with h2 h3
   intro t ht h6
   rw [← h2] at ht
   rw [List.mem_singleton.1 ht] at h6
   exact absurd h6 (by show ¬ (7 : Int) = 6; omega)
  ·cases h
 split at h
 ·unfold plainP at h
  simp only at h
  split at h
  ·injection h with h; injection h with h2 h3
   intro t ht h6
   rw [← h2] at ht
   rw [List.mem_singleton.1 ht]
   show (((⟨List.toArray _⟩ : ByteArray).size : Nat) : Int) ≤ 4 * (_ - _)
   rw [show ∀ l : List UInt8, (⟨l.toArray⟩ : ByteArray).size = l.length from fun l => by simp [ByteArray.size]]
   dsimp only
   omega
  ·cases h
 split at h
 ·unfold closingP at h
  simp only at h
  split at h
  ·cases h
  split at h
  ·injection h with h; injection h with h2 h3
   intro t ht h6
   rw [← h2] at ht
   rw [List.mem_singleton.1 ht] at h6
   exact absurd h6 (by show ¬ (5 : Int) = 6; omega)
  ·cases h
 split at h
 ·unfold tagP at h
  simp only at h
  split at h
  ·cases h
  intro t ht h6
  exact absurd h6 (attrs_kind d _ _ _ _ _ (fun t ht => by rw [List.mem_singleton.1 ht]; show ¬ (1 : Int) = 6; omega) h t ht)
 ·unfold textP at h
  simp only at h
  cases hd : dec (Lib.cut (d.data.toList.drop a.toNat) [60]).1 with
  | none => rw [hd] at h; cases h
  | some v =>
   rw [hd] at h
   injection h with h; injection h with h2 h3
   intro t ht h6
   rw [← h2] at ht
   rw [List.mem_singleton.1 ht]
   have := decF_len _ _ v hd
   show (((⟨List.toArray _⟩ : ByteArray).size : Nat) : Int) ≤ 4 * (_ - _)
   rw [show ∀ l : List UInt8, (⟨l.toArray⟩ : ByteArray).size = l.length from fun l => by simp [ByteArray.size]]
   dsimp only
   omega
theorem lexF_vals (s : ByteArray) (n : Nat) : ∀ (a : Int) (acc l : List Tok), Vals acc → lexF s n a acc = some l → Vals l := by
 induction n with
 | zero => intro a acc l _ h; cases h
 | succ n ih =>
  intro a acc l hv h
  unfold lexF at h
  split at h
  ·cases hS : stepP s a with
   | none => rw [hS] at h; cases h
   | some v =>
    obtain ⟨new, a'⟩ := v
    rw [hS] at h
    refine ih a' (acc ++ new) l (fun t ht => ?_) h
    rcases List.mem_append.1 ht with ht | ht
    ·exact hv t ht
    ·exact step_vals s a new a' hS t ht
  ·obtain rfl := Option.some.inj h
   exact hv
theorem lexV_vals (s : ByteArray) : Vals (lexV s).1 := by
 unfold lexV
 split
 ·intro t ht; cases ht
 split
 ·intro t ht; cases ht
 ·cases h : lexO s with
  | none => intro t ht; cases ht
  | some l => exact lexF_vals s _ 0 [] l (fun t ht => by cases ht) h
def Inv (st : PS) (x : Bool) (k : Nat) (m : Int) : Prop :=
 st.s.length = st.n.length ∧ st.n.length ≤ 2 * k ∧ st.o.length ≤ k ∧ (∀ z, z ∈ st.o → 0 ≤ z ∧ z < (st.s.length : Int)) ∧ (x = true → st.o ≠ []) ∧ (st.x.size : Int) ≤ m ∧ 0 ≤ m
theorem topP_in (o : List Int) (h : o ≠ []) : topP o ∈ o := by
 rcases List.eq_nil_or_concat o with h' | ⟨pre, z, h'⟩
 ·exact absurd h' h
 ·rw [h']; unfold topP; simp
theorem topP_lt {st : PS} {x : Bool} {k : Nat} {m : Int} (h : Inv st x k m) : topP st.o < (st.s.length : Int) := by
 by_cases ho : st.o = []
 ·rw [ho]; show (-1 : Int) < _; omega
 ·exact (h.2.2.2.1 _ (topP_in _ ho)).2
theorem topP_ge {st : PS} {k : Nat} {m : Int} (h : Inv st true k m) : 0 ≤ topP st.o := (h.2.2.2.1 _ (topP_in _ (h.2.2.2.2.1 rfl))).1
theorem inv_flush {st : PS} {x : Bool} {k : Nat} {m : Int} (h : Inv st x k m) : (flushP st).s.length = (flushP st).n.length ∧ (flushP st).n.length ≤ st.n.length + 1 ∧ st.s.length ≤ (flushP st).s.length ∧ (flushP st).o = st.o ∧ (flushP st).x = ⟨#[]⟩ := by
 obtain ⟨h1, -⟩ := h
 unfold flushP
 split
 ·exact ⟨h1, by show st.n.length ≤ _; omega, Nat.le_refl _, rfl, rfl⟩
 split
 ·exact ⟨h1, by show st.n.length ≤ _; omega, Nat.le_refl _, rfl, rfl⟩
 ·refine ⟨by simp [putP, h1], by simp [putP], by simp [putP], rfl, rfl⟩
theorem bz : (⟨#[]⟩ : ByteArray).size = 0 := rfl
theorem inv_end {st : PS} {x : Bool} {k : Nat} {m : Int} (h : Inv st x k m) (name : ByteArray) : Inv (endP st name) false (k + 1) m := by
 obtain ⟨f1, f2, f3, f4, f5⟩ := inv_flush h
 obtain ⟨h1, h2, h3, h4, h5, h6, h7⟩ := h
 unfold endP
 simp only
 split
 ·refine ⟨f1, by show (flushP st).n.length ≤ _; omega, by show (flushP st).o.length ≤ _; rw [f4]; omega, ?_, fun e => (absurd e (by decide)), by show ((flushP st).x.size : Int) ≤ m; rw [f5, bz]; exact h7, h7⟩
  intro z hz
  have hz : z ∈ (flushP st).o := hz
  rw [f4] at hz
  have := h4 z hz
  show 0 ≤ z ∧ z < ((flushP st).s.length : Int)
  omega
 ·refine ⟨f1, by show (flushP st).n.length ≤ _; omega, by show (flushP st).o.dropLast.length ≤ _; rw [f4, List.length_dropLast]; omega, ?_, fun e => (absurd e (by decide)), by show ((flushP st).x.size : Int) ≤ m; rw [f5, bz]; exact h7, h7⟩
  intro z hz
  have hz : z ∈ (flushP st).o.dropLast := hz
  rw [f4] at hz
  have := h4 z (((List.dropLast_sublist _).subset hz))
  show 0 ≤ z ∧ z < ((flushP st).s.length : Int)
  omega
theorem inv_mono {st : PS} {x : Bool} {k : Nat} {m m' : Int} (h : Inv st x k m) (hm : m ≤ m') : Inv st false (k + 1) m' := by
 obtain ⟨h1, h2, h3, h4, h5, h6, h7⟩ := h
 exact ⟨h1, by omega, by omega, h4, fun e => (absurd e (by decide)), by omega, by omega⟩
theorem inv_step {st : PS} {x : Bool} {k : Nat} {m : Int} (h : Inv st x k m) (t : Tok) (hx : x = inTag t.f0) (hlt : t.f1 < t.f2) (hv : t.f0 = 6 → (t.f4.size : Int) ≤ 4 * (t.f2 - t.f1)) : Inv (stepT st t) (opens t.f0) (k + 1) (m + 4 * (t.f2 - t.f1)) := by
 obtain ⟨f1, f2, f3, f4, f5⟩ := inv_flush h
 have hm : m ≤ m + 4 * (t.f2 - t.f1) := by omega
 unfold stepT
 by_cases c7 : t.f0 = 7
 ·rw [if_pos c7, c7]; exact inv_mono h hm
 rw [if_neg c7]
 by_cases c6 : t.f0 = 6
 ·rw [if_pos c6]
  have hv := hv c6
  rw [c6]
  obtain ⟨h1, h2, h3, h4, h5, h6, h7⟩ := h
  refine ⟨h1, by show st.n.length ≤ _; omega, by show st.o.length ≤ _; omega, h4, fun e => (absurd e (by decide)), ?_, by omega⟩
  show ((st.x ++ t.f4).size : Int) ≤ _
  rw [ByteArray.size_append]; omega
 rw [if_neg c6]
 by_cases c1 : t.f0 = 1
 ·rw [if_pos c1, c1]
  obtain ⟨h1, h2, h3, h4, h5, h6, h7⟩ := h
  unfold beginP
  refine ⟨by simp [putP, f1], by simp [putP]; omega, by simp [putP, f4]; omega, ?_, fun _ => by simp [putP], by show ((flushP st).x.size : Int) ≤ _; rw [f5, bz]; omega, by omega⟩
  intro z hz
  have hz : z ∈ (flushP st).o ++ [((flushP st).n.length : Int)] := hz
  show 0 ≤ z ∧ z < (((flushP st).s ++ [t.f3]).length : Int)
  rw [List.length_append, List.length_singleton]
  rcases List.mem_append.1 hz with hz | hz
  ·rw [f4] at hz
   have := h4 z hz
   omega
  ·have := List.mem_singleton.1 hz
   omega
 rw [if_neg c1]
 by_cases c2 : t.f0 = 2
 ·rw [if_pos c2, c2]
  rw [c2] at hx
  obtain ⟨h1, h2, h3, h4, h5, h6, h7⟩ := h
  unfold attrS
  refine ⟨by simp [putP, h1], by simp [putP]; omega, by show st.o.length ≤ _; omega, ?_, fun _ => h5 hx, by show (st.x.size : Int) ≤ _; omega, by omega⟩
  intro z hz
  have := h4 z hz
  show 0 ≤ z ∧ z < ((st.s ++ [t.f3]).length : Int)
  rw [List.length_append, List.length_singleton]
  omega
 rw [if_neg c2]
 have ho : opens t.f0 = false := by
  unfold opens
  rw [show (t.f0 == 1) = false from by simpa using c1, show (t.f0 == 2) = false from by simpa using c2]; rfl
 rw [ho]
 have hmm : ∀ {s : PS}, Inv s false (k + 1) m → Inv s false (k + 1) (m + 4 * (t.f2 - t.f1)) := by
  rintro s ⟨h1, h2, h3, h4, h5, h6, h7⟩
  exact ⟨h1, h2, h3, h4, h5, by omega, by omega⟩
 split
 ·exact hmm (inv_end h _)
 split
 ·exact hmm (inv_end h _)
 ·exact inv_mono h hm
theorem seg_le (L : List UInt8) : ∀ (r : List Tok) (a b : Int) (x y : Bool), Seg L a x r b y → a ≤ b := by
 intro r
 induction r with
 | nil => intro a b x y h; obtain ⟨rfl, _⟩ := h; omega
 | cons u r ih =>
  intro a b x y h
  obtain ⟨h1, h2, h3, h4, h5, h6⟩ := h
  have := ih _ _ _ _ h6
  omega
theorem inv_run (L : List UInt8) : ∀ (l : List Tok) (a b : Int) (x y : Bool) (st : PS) (k : Nat) (m : Int), Seg L a x l b y → Vals l → Inv st x k m → ∀ i, i ≤ l.length →
 ∃ x' m', Inv ((l.take i).foldl stepT st) x' (k + i) m' ∧ m' ≤ m + 4 * (b - a) ∧ (∀ t, l[i]? = some t → x' = inTag t.f0) := by
 intro l
 induction l with
 | nil =>
  intro a b x y st k m hseg _ hinv i hi
  have : i = 0 := by simpa using hi
  subst this
  obtain ⟨rfl, _⟩ := hseg
  exact ⟨x, m, hinv, by omega, fun t ht => by simp at ht⟩
 | cons u r ih =>
  intro a b x y st k m hseg hv hinv i hi
  have hle := seg_le L _ _ _ _ _ hseg
  obtain ⟨h1, h2, h3, h4, h5, h6⟩ := hseg
  cases i with
  | zero => exact ⟨x, m, hinv, by omega, fun t ht => by simp at ht; rw [← ht]; exact h5⟩
  | succ i =>
   have hst := inv_step hinv u h5 h2 (hv u (List.mem_cons_self ..))
   obtain ⟨x', m', i1, i2, i3⟩ := ih u.f2 b (opens u.f0) y (stepT st u) (k + 1) _ h6 (fun t ht => hv t (List.mem_cons_of_mem _ ht)) hst i (by simpa using hi)
   refine ⟨x', m', ?_, ?_, fun t ht => i3 t (by simpa using ht)⟩
   ·rw [show k + (i + 1) = k + 1 + i from by omega]; exact i1
   ·omega
theorem inv_zero : Inv psZero false 0 0 := ⟨rfl, Nat.le_refl _, Nat.le_refl _, fun z hz => (by cases hz), fun e => (by cases e), Int.le_refl _, Int.le_refl _⟩
theorem part_size (d : ByteArray) (i j : Int) : (partB d i j).size ≤ d.size := by
 unfold partB
 rw [Lib.size_eq, Lib.size_eq, Lib.extract_data, List.length_take, List.length_drop]; omega
theorem none_size (d : ByteArray) : (⟨#[]⟩ : ByteArray).size ≤ d.size := Nat.zero_le _
def Nms (d : ByteArray) (l : List Tok) : Prop := ∀ t, t ∈ l → t.f3.size ≤ d.size
theorem nms_app {d : ByteArray} {l r : List Tok} (h1 : Nms d l) (h2 : Nms d r) : Nms d (l ++ r) := fun t ht => by
 rcases List.mem_append.1 ht with h | h
 ·exact h1 t h
 ·exact h2 t h
theorem nms_one {d : ByteArray} {t : Tok} (h : t.f3.size ≤ d.size) : Nms d [t] := fun u hu => by rw [List.mem_singleton.1 hu]; exact h
theorem attr_nms (d : ByteArray) (a : Int) (new : List Tok) (a' : Int) (h : attrP d a = some (new, a')) : Nms d new := by
 unfold attrP at h
 simp only at h
 repeat' split at h
 all_goals first
  | (injection h with h; injection h with h2 h3; rw [← h2]; exact nms_one (part_size d _ _); done)
  | (exact absurd h (by simp))
theorem attrs_nms (d : ByteArray) : ∀ (n : Nat) (a : Int) (acc r : List Tok) (a' : Int), Nms d acc → attrsF d n a acc = some (r, a') → Nms d r := by
 intro n
 induction n with
 | zero => intro a acc r a' _ h; cases h
 | succ n ih =>
  intro a acc r a' hacc h
  unfold attrsF at h
  split at h
  ·injection h with h; injection h with h2 h3
   rw [← h2]; exact nms_app hacc (nms_one (none_size d))
  split at h
  ·injection h with h; injection h with h2 h3
   rw [← h2]; exact nms_app hacc (nms_one (none_size d))
  cases hA : attrP d a with
  | none => rw [hA] at h; cases h
  | some v =>
   obtain ⟨new, p⟩ := v
   rw [hA] at h
   exact ih p (acc ++ new) r a' (nms_app hacc (attr_nms d a new p hA)) h
theorem step_nms (d : ByteArray) (a : Int) (new : List Tok) (a' : Int) (h : stepP d a = some (new, a')) : Nms d new := by
 unfold stepP at h
 split at h
 ·unfold commentP at h
  simp only at h
  split at h
  ·cases h
  split at h
  ·injection h with h; injection h with h2 h3
   rw [← h2]; exact nms_one (none_size d)
  ·cases h
 split at h
 ·unfold plainP at h
  simp only at h
  split at h
  ·injection h with h; injection h with h2 h3
   rw [← h2]; exact nms_one (none_size d)
  ·cases h
 split at h
 ·unfold closingP at h
  simp only at h
  split at h
  ·cases h
  split at h
  ·injection h with h; injection h with h2 h3
   rw [← h2]; exact nms_one (part_size d _ _)
  ·cases h
 split at h
 ·unfold tagP at h
  simp only at h
  split at h
  ·cases h
  exact attrs_nms d _ _ _ _ _ (nms_one (part_size d _ _)) h
 ·unfold textP at h
  simp only at h
  cases hd : dec (Lib.cut (d.data.toList.drop a.toNat) [60]).1 with
  | none => rw [hd] at h; cases h
  | some v =>
   rw [hd] at h
   injection h with h; injection h with h2 h3
   rw [← h2]; exact nms_one (none_size d)
theorem lexF_nms (s : ByteArray) (n : Nat) : ∀ (a : Int) (acc l : List Tok), Nms s acc → lexF s n a acc = some l → Nms s l := by
 induction n with
 | zero => intro a acc l _ h; cases h
 | succ n ih =>
  intro a acc l hv h
  unfold lexF at h
  split at h
  ·cases hS : stepP s a with
   | none => rw [hS] at h; cases h
   | some v =>
    obtain ⟨new, a'⟩ := v
    rw [hS] at h
    exact ih a' (acc ++ new) l (nms_app hv (step_nms s a new a' hS)) h
  ·obtain rfl := Option.some.inj h
   exact hv
theorem lexV_nms (s : ByteArray) : Nms s (lexV s).1 := by
 unfold lexV
 split
 ·intro t ht; cases ht
 split
 ·intro t ht; cases ht
 ·cases h : lexO s with
  | none => intro t ht; cases ht
  | some l => exact lexF_nms s _ 0 [] l (fun t ht => by cases ht) h
def Sht (m : Nat) (l : List ByteArray) : Prop := ∀ s, s ∈ l → s.size ≤ m
theorem sht_app {m : Nat} {l : List ByteArray} {s : ByteArray} (h : Sht m l) (hs : s.size ≤ m) : Sht m (l ++ [s]) := fun u hu => by
 rcases List.mem_append.1 hu with h' | h'
 ·exact h u h'
 ·rw [List.mem_singleton.1 h']; exact hs
theorem sht_flush {m : Nat} {p : PS} (h : Sht m p.s) : Sht m (flushP p).s := by
 unfold flushP
 split
 ·exact h
 split
 ·exact h
 ·exact sht_app h (Nat.zero_le _)
theorem sht_end {m : Nat} {p : PS} (h : Sht m p.s) (name : ByteArray) : Sht m (endP p name).s := by
 unfold endP
 simp only
 split
 ·exact sht_flush h
 ·exact sht_flush h
theorem sht_step {m : Nat} {p : PS} (h : Sht m p.s) (t : Tok) (ht : t.f3.size ≤ m) : Sht m (stepT p t).s := by
 unfold stepT
 repeat' split
 ·exact h
 ·exact h
 ·exact sht_app (sht_flush h) ht
 ·exact sht_app h ht
 ·exact sht_end h _
 ·exact sht_end h _
 ·exact h
theorem sht_run {m : Nat} : ∀ (l : List Tok) (p : PS), Sht m p.s → (∀ t, t ∈ l → t.f3.size ≤ m) → Sht m (l.foldl stepT p).s
 | [], p, h, _ => h
 | t :: l, p, h, hl => sht_run l (stepT p t) (sht_step h t (hl t (List.mem_cons_self ..))) fun u hu => hl u (List.mem_cons_of_mem _ hu)
theorem seg_len (L : List UInt8) : ∀ (r : List Tok) (a b : Int) (x y : Bool), Seg L a x r b y → (r.length : Int) ≤ b - a := by
 intro r
 induction r with
 | nil => intro a b x y h; obtain ⟨rfl, _⟩ := h; simp
 | cons u r ih =>
  intro a b x y h
  obtain ⟨h1, h2, h3, h4, h5, h6⟩ := h
  have := ih _ _ _ _ h6
  rw [List.length_cons]; omega
theorem lexV_small (s : ByteArray) (h : (lexV s).2 = 0) : s.size ≤ 65536 := by
 unfold lexV at h
 split at h
 ·exact absurd h (by decide)
 ·omega
end Go.Proofs.YtlhhhlimjajnlaaGreat.X
end
section
set_option linter.unusedVariables false
set_option linter.unusedSimpArgs false
namespace Go.Proofs.YtlhhhlimjajnlaaGreat.P12
open Go Go.RowKit Go.Proofs.YtlhhhlimjajnlaaGreat Go.Proofs.YtlhhhlimjajnlaaGreat.Q Go.Proofs.YtlhhhlimjajnlaaGreatW.PrintWords Go.Proofs.YtlhhhlimjajnlaaGreat.X Go.Proofs.YtlhhhlimjajnlaaGreat.P11
theorem skip_ge (l : List UInt8) (i : Int) : i ≤ skipP l i := by
 unfold skipP; split <;> omega
theorem name_ge (l : List UInt8) (i : Int) : i ≤ nameEndP l i := by
 unfold nameEndP; split <;> omega
theorem nameLen_cons (c : UInt8) (t : List UInt8) : nameLen (c :: t) = if nameB c = true then 1 + (t.takeWhile fun d => nameB d || moreB d).length else 0 := rfl
theorem part_at (d : ByteArray) (i j : Int) (s t : List UInt8) (h0 : 0 ≤ i) (hj : j = i + s.length) (h : d.data.toList.drop i.toNat = s ++ t) : partB d i j = ⟨s.toArray⟩ := by
 unfold partB
 apply ByteArray.ext
 apply Array.ext'
 rw [Lib.extract_data, h, show j.toNat - i.toNat = s.length from by omega, List.take_left]
def keyT (t : Tok) : Int × List UInt8 × List UInt8 := (t.f0, t.f3.data.toList, t.f4.data.toList)
theorem prefix_take (t l : List UInt8) : t.isPrefixOf l = (l.take t.length == t) := by
 rw [Bool.eq_iff_iff, beq_iff_eq, List.isPrefixOf_iff_prefix]
 constructor
 ·rintro ⟨r, rfl⟩; simp
 ·intro h
  refine ⟨l.drop t.length, ?_⟩
  have := List.take_append_drop t.length l
  rw [h] at this; exact this
theorem stands_out (s t : ByteArray) (i : Int) (h0 : 0 ≤ i) (ht : 0 < t.size) (h : ¬ i + t.size ≤ (s.size : Int)) : standsB s i t = false := by
 unfold standsB Lib.hasPrefix
 rw [Bool.eq_false_iff]
 intro hp
 obtain ⟨r, hr⟩ := List.isPrefixOf_iff_prefix.1 hp
 have := congrArg List.length hr
 rw [List.length_append, List.length_drop, ← Lib.size_eq, ← Lib.size_eq] at this
 omega
theorem part_is (s t : ByteArray) (i : Int) (h0 : 0 ≤ i) (h : i + t.size ≤ (s.size : Int)) : ((s.extract i.toNat (i + (t.size : Int)).toNat).toList == t.toList) = standsB s i t := by
 unfold standsB Lib.hasPrefix
 rw [prefix_take, Lib.toList_data, Lib.toList_data, Lib.extract_data, show (i + (t.size : Int)).toNat - i.toNat = t.data.toList.length from by rw [← Lib.size_eq]; omega]
theorem begins_f (s t : ByteArray) (i : Int) (h0 : 0 ≤ i) (hi : i ≤ 4294967296) (ht : 0 < t.size) (hts : t.size ≤ 4294967296) : R2_begins.f s i t = some (standsB s i t) := by
 unfold R2_begins.f
 rw [cwr _ (by omega) (by omega)]
 by_cases h : i + (t.size : Int) ≤ (s.size : Int)
 ·rw [if_pos h, if_pos h0, if_pos (by omega), part_is s t i h0 h]
 ·rw [if_neg h, stands_out s t i h0 ht h]
def findN (l t : List UInt8) (i : Nat) : Int := if Lib.index (l.drop i) t < 0 then -1 else i + Lib.index (l.drop i) t
theorem find_l0 (s t : ByteArray) (hs : s.size ≤ 4294967296) (ht : 0 < t.size) (hts : t.size ≤ 4294967296) (d : Nat) : ∀ (n k : Nat), s.size + 1 - n = d → n ≤ s.size + 1 → d + 1 ≤ k → R2_find.l0 k s t n = some (findN s.data.toList t.data.toList n) := by
 have hsz : s.data.toList.length = s.size := (Lib.size_eq s).symm
 have htl : t.data.toList.length = t.size := (Lib.size_eq t).symm
 have hout : ∀ n : Nat, ¬ n + t.size ≤ s.size → Lib.index (s.data.toList.drop n) t.data.toList = -1 := by
  intro n hn
  by_cases hi : 0 ≤ Lib.index (s.data.toList.drop n) t.data.toList
  ·have := Lib.index_room _ _ hi
   rw [List.length_drop] at this; omega
  ·have := Lib.index_ge (s.data.toList.drop n) t.data.toList; omega
 induction d with
 | zero =>
  intro n k hd hn hk
  obtain ⟨k, rfl⟩ : ∃ j, k = j + 1 := ⟨k - 1, by omega⟩
  unfold R2_find.l0
  rw [cwr _ (by omega) (by omega), if_neg (by omega)]
  unfold findN
  rw [hout n (by omega), if_pos (by omega)]
 | succ d ih =>
  intro n k hd hn hk
  obtain ⟨k, rfl⟩ : ∃ j, k = j + 1 := ⟨k - 1, by omega⟩
  unfold R2_find.l0
  rw [cwr _ (by omega) (by omega)]
  by_cases h : (n : Int) + (t.size : Int) ≤ (s.size : Int)
  ·have hcons := List.drop_eq_getElem_cons (show n < s.data.toList.length by omega)
   have hp := part_is s t n (by omega) h
   rw [if_pos h, if_pos (by omega), if_pos (by omega)]
   have hst : standsB s n t = t.data.toList.isPrefixOf (s.data.toList.drop n) := by unfold standsB Lib.hasPrefix; rw [show ((n : Nat) : Int).toNat = n from by omega]
   rw [hst] at hp
   by_cases hq : t.data.toList.isPrefixOf (s.data.toList.drop n) = true
   ·rw [hq, beq_iff_eq] at hp
    rw [if_pos hp]
    unfold findN
    have : Lib.index (s.data.toList.drop n) t.data.toList = 0 := by
     rw [hcons] at hq ⊢
     show (if _ then _ else _) = _
     rw [if_pos hq]
    rw [this, if_neg (by omega)]; simp
   ·have hp' : ¬ _ := fun e => hq (by rw [← hp, beq_iff_eq]; exact e)
    rw [if_neg hp', cwr _ (by omega) (by omega), show ((n : Nat) : Int) + 1 = ((n + 1 : Nat) : Int) from by omega, ih (n + 1) k (by omega) (by omega) (by omega)]
    unfold findN
    have hx : Lib.index (s.data.toList.drop n) t.data.toList = if Lib.index (s.data.toList.drop (n + 1)) t.data.toList == -1 then -1 else Lib.index (s.data.toList.drop (n + 1)) t.data.toList + 1 := by
     rw [hcons] at hq ⊢
     show (if _ then _ else _) = _
     rw [if_neg hq]
    have hge := Lib.index_ge (s.data.toList.drop (n + 1)) t.data.toList
    rw [hx]
    generalize Lib.index (s.data.toList.drop (n + 1)) t.data.toList = J at hge
    by_cases hm : J = -1
    ·subst hm; rfl
    ·have e1 : (J == -1) = false := beq_eq_false_iff_ne.2 hm
     rw [e1]
     simp only [Bool.false_eq_true, if_false]
     rw [if_neg (show ¬ J < 0 by omega), if_neg (show ¬ J + 1 < 0 by omega)]
     congr 1; omega
  ·rw [if_neg h]
   unfold findN
   rw [hout n (by omega), if_pos (by omega)]
theorem find_f (s t : ByteArray) (i : Int) (h0 : 0 ≤ i) (hi : i ≤ (s.size : Int) + 1) (hs : s.size ≤ 4294967296) (ht : 0 < t.size) (hts : t.size ≤ 4294967296) (k : Nat) (hk : s.size + 2 ≤ k) : R2_find.f k s i t = some (findN s.data.toList t.data.toList i.toNat) := by
 unfold R2_find.f
 have := find_l0 s t hs ht hts (s.size + 1 - i.toNat) i.toNat k rfl (by omega) (by omega)
 rw [show ((i.toNat : Nat) : Int) = i from by omega] at this
 exact this
def decR (t : ByteArray) (l : List UInt8) : ByteArray × Bool := match dec l with
 | some v => (t ++ ⟨v.toArray⟩, true)
 | none => (⟨#[]⟩, false)
theorem app_mk (t : ByteArray) (v u : List UInt8) : t ++ (⟨(v ++ u).toArray⟩ : ByteArray) = (t ++ ⟨v.toArray⟩) ++ ⟨u.toArray⟩ := by
 apply ByteArray.ext; apply Array.ext'
 simp [ByteArray.data_append, List.append_assoc]
theorem decR_map (t : ByteArray) (v : List UInt8) (l u : List UInt8) (h : dec l = (dec u).map (v ++ ·)) : decR t l = decR (t ++ ⟨v.toArray⟩) u := by
 unfold decR
 rw [h]
 cases dec u with
 | none => rfl
 | some w => show (t ++ (⟨(v ++ w).toArray⟩ : ByteArray), true) = _; rw [app_mk]
theorem app_nil (t : ByteArray) : t ++ (⟨([] : List UInt8).toArray⟩ : ByteArray) = t := by
 apply ByteArray.ext; apply Array.ext'
 simp [ByteArray.data_append]
theorem mk_size (v : List UInt8) : (⟨v.toArray⟩ : ByteArray).size = v.length := by simp [ByteArray.size]
theorem decoded_l0 (s : ByteArray) (hs : s.size ≤ 4294967000) (d : Nat) : ∀ (n k : Nat) (t : ByteArray), s.size - n ≤ d → n ≤ s.size → d + 1 ≤ k → t.size ≤ 4 * n → R2_decoded.l0 k s t n = some (decR t (s.data.toList.drop n)) := by
 have hsz : s.data.toList.length = s.size := (Lib.size_eq s).symm
 have hend : ∀ (k : Nat) (t : ByteArray), 1 ≤ k → R2_decoded.l0 k s t s.size = some (decR t (s.data.toList.drop s.size)) := by
  intro k t hk
  obtain ⟨k, rfl⟩ : ∃ j, k = j + 1 := ⟨k - 1, by omega⟩
  unfold R2_decoded.l0
  rw [if_neg (by omega), List.drop_of_length_le (by omega)]
  unfold decR
  rw [dec_nil]
  show some (t, true) = some (t ++ (⟨([] : List UInt8).toArray⟩ : ByteArray), true)
  rw [app_nil]
 induction d with
 | zero =>
  intro n k t hd hn hk ht
  have : n = s.size := by omega
  subst this
  exact hend k t (by omega)
 | succ d ih =>
  intro n k t hd hn hk ht
  by_cases hlt : n < s.size
  ·obtain ⟨k, rfl⟩ : ∃ j, k = j + 1 := ⟨k - 1, by omega⟩
   have hcons := cdrop_cons s n hlt
   obtain ⟨c, hc⟩ : ∃ c, s[n] = c := ⟨_, rfl⟩
   rw [hc] at hcons
   unfold R2_decoded.l0
   rw [if_pos (by omega), if_pos (by omega), bt_get' s n hlt, hc]
   by_cases h38 : c = 38
   ·subst h38
    rw [if_pos (by decide), R1_Entity.f, if_pos (by omega), Option.bind_some, refEnt_eq]
    have hent : entP s.data.toList n = entL (38 :: s.data.toList.drop (n + 1)) := by
     unfold entP; rw [if_pos ⟨by omega, by omega⟩, show ((n : Nat) : Int).toNat = n from by omega, hcons]
    have hok := entL_ok (38 :: s.data.toList.drop (n + 1))
    have hdec := dec_amp (s.data.toList.drop (n + 1))
    have hlen : (38 :: s.data.toList.drop (n + 1)).length = s.size - n := by rw [← hcons, List.length_drop, hsz]
    rw [hlen] at hok
    rw [hent]
    obtain ⟨e, he⟩ : ∃ e, entL (38 :: s.data.toList.drop (n + 1)) = e := ⟨_, rfl⟩
    rw [he] at hok hdec ⊢
    obtain ⟨e1, e2⟩ := e
    simp only at hok hdec ⊢
    by_cases hz : e2 = 0
    ·rw [if_pos hz] at hdec
     rw [if_pos hz, hcons]
     unfold decR
     rw [hdec]
    ·rw [if_neg hz] at hdec
     have hes := mk_size e1
     rw [if_neg hz, if_pos (by omega), cwr _ (by omega) (by omega)]
     obtain ⟨m, hm⟩ : ∃ m : Nat, e2 = (m : Int) := ⟨e2.toNat, by omega⟩
     subst hm
     rw [show ((n : Nat) : Int) + (m : Int) = ((n + m : Nat) : Int) from by omega, ih (n + m) k _ (by omega) (by omega) (by omega) (by rw [ByteArray.size_append]; omega)]
     rw [← hcons, show ((m : Nat) : Int).toNat = m from by omega, List.drop_drop] at hdec
     rw [hcons] at hdec ⊢
     rw [decR_map t e1 _ _ hdec]
   ·have hne : ¬ ((c.toNat : Int) = 38) := fun e => h38 (UInt8.toNat_inj.1 (by show c.toNat = 38; omega))
    have hx : (s.extract n (n + 1)).data.toList = [c] := by
     rw [Lib.extract_data, hcons]; simp
    have hxs : (s.extract n (n + 1)).size = 1 := by rw [Lib.size_eq, hx]; rfl
    have hxe : s.extract n (n + 1) = ⟨[c].toArray⟩ := by apply ByteArray.ext; apply Array.ext'; rw [hx]
    rw [if_neg hne, cwr _ (by omega) (by omega), if_pos (by omega), if_pos (by omega), show ((n : Nat) : Int).toNat = n from by omega, show (((n : Nat) : Int) + 1).toNat = n + 1 from by omega, hxs, if_pos (by omega), show ((n : Nat) : Int) + 1 = ((n + 1 : Nat) : Int) from by omega,
     ih (n + 1) k _ (by omega) (by omega) (by omega) (by rw [ByteArray.size_append, hxs]; omega), hxe, hcons]
    rw [decR_map t [c] (c :: s.data.toList.drop (n + 1)) (s.data.toList.drop (n + 1)) (dec_cons c _ h38)]
  ·have : n = s.size := by omega
   subst this
   exact hend k t (by omega)
theorem decoded_f (s : ByteArray) (hs : s.size ≤ 4294967000) (k : Nat) (hk : s.size + 1 ≤ k) : R2_decoded.f k s = some (decR ⟨#[]⟩ s.data.toList) := by
 have := decoded_l0 s hs s.size 0 k ⟨#[]⟩ (by omega) (by omega) hk (by decide)
 exact this
theorem cut_find (l t : List UInt8) (i : Nat) : (Lib.cut (l.drop i) t).2.2 = decide (0 ≤ findN l t i) ∧ (0 ≤ findN l t i → findN l t i = i + ((Lib.cut (l.drop i) t).1.length : Int) ∧ (Lib.cut (l.drop i) t).1 = (l.drop i).take (findN l t i - i).toNat) := by
 unfold findN Lib.cut
 have hle := Lib.index_le (l.drop i) t
 by_cases h : 0 ≤ Lib.index (l.drop i) t
 ·rw [if_pos h, if_neg (by omega)]
  refine ⟨by rw [decide_eq_true (by omega)], fun _ => ⟨?_, ?_⟩⟩
  ·show _ = (i : Int) + (((l.drop i).take _).length : Int)
   rw [List.length_take]; omega
  ·show (l.drop i).take _ = (l.drop i).take _
   congr 1; omega
 ·rw [if_neg h, if_pos (by omega)]
  exact ⟨by rw [decide_eq_false (by omega)], fun h => by omega⟩
def AttrSame (r : Int × Int × Int × ByteArray × ByteArray × Bool) (p : Option (List Tok × Int)) : Prop := match p with
 | some (new, a') => new = [⟨r.1, r.2.1, r.2.2.1, r.2.2.2.1, r.2.2.2.2.1⟩] ∧ r.2.2.2.2.2 = true ∧ a' = r.2.2.1
 | none => r.2.2.2.2.2 = false
theorem skip_at (s : ByteArray) (a : Int) (hs : s.size ≤ 65536) (k : Nat) (hk : 200000 ≤ k) : R1_Skip.f k s a = some (skipP s.data.toList a) := by
 obtain ⟨j, rfl⟩ : ∃ j, k = 2 * s.size + 2 + j := ⟨k - (2 * s.size + 2), by omega⟩
 exact ref_skip_f s a (by omega) j
theorem name_at (s : ByteArray) (a : Int) (hs : s.size ≤ 65536) (k : Nat) (hk : 200000 ≤ k) : R1_NameEnd.f k s a = some (nameEndP s.data.toList a) := by
 obtain ⟨j, rfl⟩ : ∃ j, k = 2 * s.size + 2 + j := ⟨k - (2 * s.size + 2), by omega⟩
 exact ref_name_f s a (by omega) j
def PieceSame (r : List Tok × Bool) (p : Option (List Tok × Int)) : Prop := match p with
 | some (new, a') => r = (new, true) ∧ ∃ t, new.getLast? = some t ∧ t.f2 = a'
 | none => r.2 = false
theorem rd_last (l : List Tok) (t : Tok) (h : (l ++ [t]).length ≤ 4294967296) : rd_T51 (l ++ [t]) (wrap64 (((l ++ [t]).length : Int) - 1)) = t := by
 rw [List.length_append, List.length_singleton] at h ⊢
 rw [cwr _ (by omega) (by omega)]
 unfold rd_T51
 rw [show (((l.length + 1 : Nat) : Int) - 1).toNat = l.length from by omega]
 simp
theorem part_eq (s : ByteArray) (i j : Int) (h0 : 0 ≤ i) (l : List UInt8) (h : l = (s.data.toList.drop i.toNat).take (j - i).toNat) (hij : i ≤ j) : s.extract i.toNat j.toNat = ⟨l.toArray⟩ := by
 apply ByteArray.ext; apply Array.ext'
 rw [Lib.extract_data, h, show j.toNat - i.toNat = (j - i).toNat from by omega]
end Go.Proofs.YtlhhhlimjajnlaaGreat.P12
end
section
set_option linter.unusedVariables false
set_option linter.unusedSimpArgs false
namespace Go.Proofs.YtlhhhlimjajnlaaGreat.P12
open Go Go.RowKit Go.Proofs.YtlhhhlimjajnlaaGreat Go.Proofs.YtlhhhlimjajnlaaGreat.Q Go.Proofs.YtlhhhlimjajnlaaGreatW.PrintWords Go.Proofs.YtlhhhlimjajnlaaGreatW.PrintLast Go.Proofs.YtlhhhlimjajnlaaGreatW.PrintMore Go.Proofs.YtlhhhlimjajnlaaGreat.X Go.Proofs.YtlhhhlimjajnlaaGreat.P11
attribute [local go_sem] max2_int min2_int max_two min_two   
abbrev SkipC (s : ByteArray) (a r : Int) : Prop := ∀ w, Calls Tryz.prog 67 #[.string s, .int .i64 a] w fun e w' => e = .returned (.int .i64 r) ∧ Drawn0 w w'
abbrev NameC (s : ByteArray) (a r : Int) : Prop := ∀ w, Calls Tryz.prog 53 #[.string s, .int .i64 a] w fun e w' => e = .returned (.int .i64 r) ∧ Drawn0 w w'
abbrev BegC (s : ByteArray) (a : Int) (t : ByteArray) (r : Bool) : Prop := ∀ w, Calls Tryz.prog 93 #[.string s, .int .i64 a, .string t] w fun e w' => e = .returned (.bool r) ∧ Drawn0 w w'
abbrev FindC (s : ByteArray) (a : Int) (t : ByteArray) (r : Int) : Prop := ∀ w, Calls Tryz.prog 94 #[.string s, .int .i64 a, .string t] w fun e w' => e = .returned (.int .i64 r) ∧ Drawn0 w w'
abbrev DecC (s v : ByteArray) (b : Bool) : Prop := ∀ w, Calls Tryz.prog 96 #[.string s] w fun e w' => e = .returned (.tuple #[.string v, .bool b]) ∧ Below w.heap.size w w'
abbrev AR := Int × Int × Int × ByteArray × ByteArray × Bool
def a0 : AR := (0, 0, 0, ⟨#[]⟩, ⟨#[]⟩, false)
def Ret (r : AR) (e : Ending) : Prop := e = .returned (.tuple #[.agg #[.int .i64 r.1, .int .i64 r.2.1, .int .i64 r.2.2.1, .string r.2.2.2.1, .string r.2.2.2.2.1], .bool r.2.2.2.2.2])
def C4 (s : ByteArray) (F E O : Int) (R : AR) : Prop := ((0 : Int) ≤ O) = True ∧ (O ≤ O + 1) = True ∧ (O + 1 ≤ (s.size : Int)) = True ∧ IntKind.i64.wrap (O + 1) = O + 1 ∧ ∃ T, FindC s (O + 1) (s.extract O.toNat (O + 1).toNat) T ∧ ((T < 0) = True ∧ R = a0 ∨ (T < 0) = False ∧ ((0 : Int) ≤ O + 1) = True ∧ (O + 1 ≤ T) = True ∧ (T ≤ (s.size : Int)) = True ∧ ∃ L, FindC (s.extract (O + 1).toNat T.toNat) 0 ⟨#[60]⟩ L ∧ (((0 : Int) ≤ L) = True ∧ R = a0 ∨ ((0 : Int) ≤ L) = False ∧ ∃ v b, DecC (s.extract (O + 1).toNat T.toNat) v b ∧ IntKind.i64.wrap (T + 1) = T + 1 ∧ ((0 : Int) ≤ F) = True ∧ (F ≤ E) = True ∧ (E ≤ (s.size : Int)) = True ∧ R = (2, F, T + 1, s.extract F.toNat E.toNat, v, b)))
def C3 (s : ByteArray) (F E Q : Int) (R : AR) : Prop := IntKind.i64.wrap (Q + 1) = Q + 1 ∧ ∃ O b2 b3, SkipC s (Q + 1) O ∧ BegC s O ⟨#[34]⟩ b2 ∧ BegC s O ⟨#[39]⟩ b3 ∧ (b2 = false ∧ b3 = false ∧ R = a0 ∨ (b2 = true ∨ b2 = false ∧ b3 = true) ∧ C4 s F E O R)
def C2 (s : ByteArray) (F E : Int) (R : AR) : Prop := ∃ Q b1, SkipC s E Q ∧ BegC s Q ⟨#[61]⟩ b1 ∧ (b1 = false ∧ R = a0 ∨ b1 = true ∧ C3 s F E Q R)
def C1 (s : ByteArray) (a : Int) (R : AR) : Prop := ∃ F E, SkipC s a F ∧ NameC s F E ∧ (((F == a) = true ∨ (F == a) = false ∧ (E == F) = true) ∧ R = a0 ∨ (F == a) = false ∧ (E == F) = false ∧ C2 s F E R)
set_option maxHeartbeats 8000000 in
set_option maxRecDepth 100000 in
theorem attr_go {s : ByteArray} {a : Int} {R : AR} (h : C1 s a R) (w : World) : Calls Tryz.prog 117 #[.string s, .int .i64 a] w fun e w' => Ret R e ∧ Below w.heap.size w w' := by
 obtain ⟨F, E, h1, h2, h⟩ := h
 have hbk := blk_new w (.cells #[.int .i64 0, .int .i64 0, .int .i64 0, .string ⟨#[]⟩, .string ⟨#[]⟩] 51)
 have hb := below_alloc (Below.refl w.heap.size w) (.cells #[.int .i64 0, .int .i64 0, .int .i64 0, .string ⟨#[]⟩, .string ⟨#[]⟩] 51)
 go_enter Tryz.func117, Tryz.ntmps117
 go_upto_region 1 with (fail)
 generalize w.alloc (.cells #[.int .i64 0, .int .i64 0, .int .i64 0, .string ⟨#[]⟩, .string ⟨#[]⟩] 51) = w1 at hbk hb ⊢
 have HBK := Lib.hid hbk
 have HB := Lib.hid hb
 have y0 := (blk_cell hbk 0).trans (show _ = some (Value.int .i64 0) from rfl)
 have f0 := blk_frozen hbk 0
 have y1 := (blk_cell hbk 1).trans (show _ = some (Value.int .i64 0) from rfl)
 have f1 := blk_frozen hbk 1
 have y2 := (blk_cell hbk 2).trans (show _ = some (Value.int .i64 0) from rfl)
 have f2 := blk_frozen hbk 2
 have y3 := (blk_cell hbk 3).trans (show _ = some (Value.string ⟨#[]⟩) from rfl)
 have f3 := blk_frozen hbk 3
 have y4 := (blk_cell hbk 4).trans (show _ = some (Value.string ⟨#[]⟩) from rfl)
 have f4 := blk_frozen hbk 4
 clear hbk hb
 rcases h with ⟨q1 | ⟨q1, q2⟩, rfl⟩ | ⟨q1, q2, Q, b1, h3, h4, ⟨rfl, rfl⟩ | ⟨rfl, q3, O, b2, b3, h5, h6, h7, ⟨rfl, rfl, rfl⟩ | ⟨hq, q4, q5, q6, q7, T, h8, ⟨q8, rfl⟩ | ⟨q8, q9, q10, q11, L, h9, ⟨q12, rfl⟩ | ⟨q12, v, b, h10, q13, q14, q15, q16, rfl⟩⟩⟩⟩⟩
 iterate 4
  ·go_wp2_with (first | (go_at_call 67; (with_reducible first | refine (h1 _).mono ?_ | refine (h3 _).mono ?_ | refine (h5 _).mono ?_); rintro e w' ⟨rfl, n1, rfl⟩) | (go_at_call 53; refine (h2 _).mono ?_; rintro e w' ⟨rfl, n2, rfl⟩) | (go_at_call 93; (with_reducible first | refine (h4 _).mono ?_ | refine (h6 _).mono ?_ | refine (h7 _).mono ?_); rintro e w' ⟨rfl, n3, rfl⟩))
   refine bodyPost_ret (results_ct rfl _ _ w.heap.size 51 #[.int .i64 0, .int .i64 0, .int .i64 0, .string ⟨#[]⟩, .string ⟨#[]⟩] (0, 0) _ rfl (blk_set (blk_set (blk_set (blk_set (blk_set (blk_drewN HBK.out _) 0 _) 1 _) 2 _) 3 _) 4 _) Tryz.underlying51 rfl (by kernel_rfl)) rfl ?_
   exact ⟨rfl, (((((pw_below_drewN HB.out _).setCell (Nat.le_refl _) _).setCell (Nat.le_refl _) _).setCell (Nat.le_refl _) _).setCell (Nat.le_refl _) _).setCell (Nat.le_refl _) _⟩
 all_goals
  rcases hq with rfl | ⟨rfl, rfl⟩
 iterate 4
  ·go_wp2_with (first | (go_at_call 67; (with_reducible first | refine (h1 _).mono ?_ | refine (h3 _).mono ?_ | refine (h5 _).mono ?_); rintro e w' ⟨rfl, n1, rfl⟩) | (go_at_call 53; refine (h2 _).mono ?_; rintro e w' ⟨rfl, n2, rfl⟩) | (go_at_call 93; (with_reducible first | refine (h4 _).mono ?_ | refine (h6 _).mono ?_ | refine (h7 _).mono ?_); rintro e w' ⟨rfl, n3, rfl⟩) | (go_at_call 94; (with_reducible first | refine (h8 _).mono ?_ | refine (h9 _).mono ?_); rintro e w' ⟨rfl, n4, rfl⟩) | (go_at_call 96; refine (h10 _).mono ?_; rintro e w9 ⟨rfl, hb9⟩; have hbk := blk_below (blk_drewN HBK.out _) hb9; have y0 := (blk_cell hbk 0).trans (show _ = some (Value.int .i64 0) from rfl); have f0 := blk_frozen hbk 0; have y1 := (blk_cell hbk 1).trans (show _ = some (Value.int .i64 0) from rfl); have f1 := blk_frozen hbk 1; have y2 := (blk_cell hbk 2).trans (show _ = some (Value.int .i64 0) from rfl); have f2 := blk_frozen hbk 2; have y3 := (blk_cell hbk 3).trans (show _ = some (Value.string ⟨#[]⟩) from rfl); have f3 := blk_frozen hbk 3; have y4 := (blk_cell hbk 4).trans (show _ = some (Value.string ⟨#[]⟩) from rfl); have f4 := blk_frozen hbk 4; have HBK9 := Lib.hid hbk; have HB9 := Lib.hid (below_step (pw_below_drewN HB.out _) hb9); clear hbk hb9))
   refine bodyPost_ret (results_ct rfl _ _ w.heap.size 51 #[.int .i64 0, .int .i64 0, .int .i64 0, .string ⟨#[]⟩, .string ⟨#[]⟩] (0, 0) _ rfl (blk_set (blk_set (blk_set (blk_set (blk_set (blk_drewN HBK.out _) 0 _) 1 _) 2 _) 3 _) 4 _) Tryz.underlying51 rfl (by kernel_rfl)) rfl ?_
   exact ⟨rfl, (((((pw_below_drewN HB.out _).setCell (Nat.le_refl _) _).setCell (Nat.le_refl _) _).setCell (Nat.le_refl _) _).setCell (Nat.le_refl _) _).setCell (Nat.le_refl _) _⟩
 all_goals
  go_wp2_with (first | (go_at_call 67; (with_reducible first | refine (h1 _).mono ?_ | refine (h3 _).mono ?_ | refine (h5 _).mono ?_); rintro e w' ⟨rfl, n1, rfl⟩) | (go_at_call 53; refine (h2 _).mono ?_; rintro e w' ⟨rfl, n2, rfl⟩) | (go_at_call 93; (with_reducible first | refine (h4 _).mono ?_ | refine (h6 _).mono ?_ | refine (h7 _).mono ?_); rintro e w' ⟨rfl, n3, rfl⟩) | (go_at_call 94; (with_reducible first | refine (h8 _).mono ?_ | refine (h9 _).mono ?_); rintro e w' ⟨rfl, n4, rfl⟩) | (go_at_call 96; refine (h10 _).mono ?_; rintro e w9 ⟨rfl, hb9⟩; have hbk := blk_below (blk_drewN HBK.out _) hb9; have y0 := (blk_cell hbk 0).trans (show _ = some (Value.int .i64 0) from rfl); have f0 := blk_frozen hbk 0; have y1 := (blk_cell hbk 1).trans (show _ = some (Value.int .i64 0) from rfl); have f1 := blk_frozen hbk 1; have y2 := (blk_cell hbk 2).trans (show _ = some (Value.int .i64 0) from rfl); have f2 := blk_frozen hbk 2; have y3 := (blk_cell hbk 3).trans (show _ = some (Value.string ⟨#[]⟩) from rfl); have f3 := blk_frozen hbk 3; have y4 := (blk_cell hbk 4).trans (show _ = some (Value.string ⟨#[]⟩) from rfl); have f4 := blk_frozen hbk 4; have HBK9 := Lib.hid hbk; have HB9 := Lib.hid (below_step (pw_below_drewN HB.out _) hb9); clear hbk hb9))
  refine bodyPost_ret (results_ct rfl _ _ w.heap.size 51 #[.int .i64 2, .int .i64 F, .int .i64 (T + 1), .string (s.extract F.toNat E.toNat), .string v] (0, 0) _ rfl (blk_set (blk_set (blk_set (blk_set (blk_set HBK9.out 0 _) 1 _) 2 _) 3 _) 4 _) Tryz.underlying51 rfl (by kernel_rfl)) rfl ?_
  exact ⟨rfl, (((((HB9.out).setCell (Nat.le_refl _) _).setCell (Nat.le_refl _) _).setCell (Nat.le_refl _) _).setCell (Nat.le_refl _) _).setCell (Nat.le_refl _) _⟩
end Go.Proofs.YtlhhhlimjajnlaaGreat.P12
end
section
set_option linter.unusedVariables false
set_option linter.unusedSimpArgs false
namespace Go.Proofs.YtlhhhlimjajnlaaGreat.P12
open Go Go.RowKit Go.Proofs.YtlhhhlimjajnlaaGreat Go.Proofs.YtlhhhlimjajnlaaGreat.Q Go.Proofs.YtlhhhlimjajnlaaGreatW.PrintWords Go.Proofs.YtlhhhlimjajnlaaGreat.X Go.Proofs.YtlhhhlimjajnlaaGreat.P11
theorem skipC {s : ByteArray} (hs : s.size ≤ 65536) {a r : Int} (h : skipP s.data.toList a = r) : SkipC s a r := fun w => R1_Skip.calls 200000 s a r w (h ▸ skip_at s a hs _ (Nat.le_refl _))
theorem nameC {s : ByteArray} (hs : s.size ≤ 65536) {a r : Int} (h : nameEndP s.data.toList a = r) : NameC s a r := fun w => R1_NameEnd.calls 200000 s a r w (h ▸ name_at s a hs _ (Nat.le_refl _))
theorem begC {s t : ByteArray} {i : Int} (h0 : 0 ≤ i) (hi : i ≤ 4294967296) (ht : 0 < t.size) (hts : t.size ≤ 4294967296) {b : Bool} (h : standsB s i t = b) : BegC s i t b := fun w => R2_begins.calls s i t b w (h ▸ begins_f s t i h0 hi ht hts)
theorem findC {s t : ByteArray} {i : Int} (hs : s.size ≤ 65536) (h0 : 0 ≤ i) (hi : i ≤ (s.size : Int) + 1) (ht : 0 < t.size) (hts : t.size ≤ 4294967296) {r : Int} (h : findN s.data.toList t.data.toList i.toNat = r) : FindC s i t r := fun w => R2_find.calls 200000 s i t r w (h ▸ find_f s t i h0 hi (by omega) ht hts _ (by omega))
theorem decC {s : ByteArray} (hs : s.size ≤ 65536) {v : ByteArray} {b : Bool} (h : decR ⟨#[]⟩ s.data.toList = (v, b)) : DecC s v b := fun w => R2_decoded.calls 200000 s v b w (h ▸ decoded_f s (by omega) _ (by omega))
theorem wr64 {i : Int} (h0 : -4294967296 ≤ i) (h1 : i ≤ 4294967296) : IntKind.i64.wrap i = i := by rw [IntKind.wrap_i64]; omega
theorem attr_C (s : ByteArray) (a : Int) (hs : s.size ≤ 65536) (h0 : 0 ≤ a) (h1 : a ≤ (s.size : Int)) : ∃ R, C1 s a R ∧ AttrSame R (attrP s a) := by
 have hsz : s.data.toList.length = s.size := (Lib.size_eq s).symm
 unfold attrP
 obtain ⟨F, hF⟩ : ∃ F, skipP s.data.toList a = F := ⟨_, rfl⟩
 obtain ⟨E, hE⟩ : ∃ E, nameEndP s.data.toList F = E := ⟨_, rfl⟩
 obtain ⟨Q, hQ⟩ : ∃ Q, skipP s.data.toList E = Q := ⟨_, rfl⟩
 obtain ⟨O, hO⟩ : ∃ O, skipP s.data.toList (Q + 1) = O := ⟨_, rfl⟩
 have hF1 := skipP_in s.data.toList a (by omega) (by omega)
 rw [hF] at hF1
 have hE1 := nameEndP_in s.data.toList F (by omega) (by omega)
 rw [hE] at hE1
 have hQ1 := skipP_in s.data.toList E (by omega) (by omega)
 rw [hQ] at hQ1
 simp only [hF, hE, hQ, hO]
 by_cases c1 : F = a
 ·rw [if_pos c1]
  exact ⟨a0, ⟨F, E, skipC hs hF, nameC hs hE, .inl ⟨.inl (by simpa using c1), rfl⟩⟩, rfl⟩
 rw [if_neg c1]
 have d1 : (F == a) = false := beq_eq_false_iff_ne.2 c1
 by_cases c2 : E = F
 ·rw [if_pos c2]
  exact ⟨a0, ⟨F, E, skipC hs hF, nameC hs hE, .inl ⟨.inr ⟨d1, by simpa using c2⟩, rfl⟩⟩, rfl⟩
 have d2 : (E == F) = false := beq_eq_false_iff_ne.2 c2
 rw [if_neg c2]
 suffices h : ∃ R, C2 s F E R ∧ AttrSame R _ from h.elim fun R ⟨h, h'⟩ => ⟨R, ⟨F, E, skipC hs hF, nameC hs hE, .inr ⟨d1, d2, h⟩⟩, h'⟩
 by_cases c3 : standsB s Q ⟨#[61]⟩ = false
 ·rw [if_pos c3]
  exact ⟨a0, ⟨Q, _, skipC hs hQ, begC (by omega) (by omega) (by decide) (by decide) rfl, .inl ⟨c3, rfl⟩⟩, rfl⟩
 have c3' : standsB s Q ⟨#[61]⟩ = true := by simpa using c3
 have hr1 := stands_room s Q 61 (by omega) c3'
 have hO1 := skipP_in s.data.toList (Q + 1) (by omega) (by omega)
 rw [hO] at hO1
 rw [if_neg c3]
 suffices h : ∃ R, C3 s F E Q R ∧ AttrSame R _ from h.elim fun R ⟨h, h'⟩ => ⟨R, ⟨Q, _, skipC hs hQ, begC (by omega) (by omega) (by decide) (by decide) rfl, .inr ⟨c3', h⟩⟩, h'⟩
 by_cases c4 : standsB s O ⟨#[34]⟩ = false ∧ standsB s O ⟨#[39]⟩ = false
 ·rw [if_pos c4]
  exact ⟨a0, ⟨wr64 (by omega) (by omega), O, _, _, skipC hs hO, begC (by omega) (by omega) (by decide) (by decide) rfl, begC (by omega) (by omega) (by decide) (by decide) rfl, .inl ⟨c4.1, c4.2, rfl⟩⟩, rfl⟩
 have hb : standsB s O ⟨#[34]⟩ = true ∨ standsB s O ⟨#[34]⟩ = false ∧ standsB s O ⟨#[39]⟩ = true := by
  cases e : standsB s O ⟨#[34]⟩
  ·right; refine ⟨rfl, ?_⟩
   cases e' : standsB s O ⟨#[39]⟩
   ·exact absurd ⟨e, e'⟩ c4
   ·rfl
  ·exact .inl rfl
 have hO2 : O < (s.size : Int) := hb.elim (fun c => stands_room s O 34 (by omega) c) (fun c => stands_room s O 39 (by omega) c.2)
 rw [if_neg c4]
 suffices h : ∃ R, C4 s F E O R ∧ AttrSame R _ from h.elim fun R ⟨h, h'⟩ => ⟨R, ⟨wr64 (by omega) (by omega), O, _, _, skipC hs hO, begC (by omega) (by omega) (by decide) (by decide) rfl, begC (by omega) (by omega) (by decide) (by decide) rfl, .inr ⟨hb, h⟩⟩, h'⟩
 obtain ⟨Z, hZ⟩ : ∃ Z, s.extract O.toNat (O + 1).toNat = Z := ⟨_, rfl⟩
 have hZ' : partB s O (O + 1) = Z := hZ
 have hZs : Z.size = 1 := by rw [Lib.size_eq, ← hZ, Lib.extract_data, List.length_take, List.length_drop]; omega
 unfold C4
 rw [hZ, hZ']
 have hcf := cut_find s.data.toList Z.data.toList (O + 1).toNat
 obtain ⟨T, hT⟩ : ∃ T, findN s.data.toList Z.data.toList (O + 1).toNat = T := ⟨_, rfl⟩
 obtain ⟨c, hc⟩ : ∃ c, Lib.cut (s.data.toList.drop (O + 1).toNat) Z.data.toList = c := ⟨_, rfl⟩
 rw [hT, hc] at hcf
 rw [hc]
 have e0 : ((0 : Int) ≤ O) = True := eq_true (by omega)
 have e1 : (O ≤ O + 1) = True := eq_true (by omega)
 have e2 : (O + 1 ≤ (s.size : Int)) = True := eq_true (by omega)
 have hfT : FindC s (O + 1) Z T := findC hs (by omega) (by omega) (by omega) (by omega) hT
 by_cases c5 : T < 0
 ·have e5 : c.2.2 = false := by rw [hcf.1, decide_eq_false (by omega)]
  rw [if_pos e5]
  exact ⟨a0, ⟨e0, e1, e2, wr64 (by omega) (by omega), T, hfT, .inl ⟨eq_true c5, rfl⟩⟩, rfl⟩
 obtain ⟨hT1, hc1⟩ := hcf.2 (by omega)
 have hcl : (c.1.length : Int) ≤ (s.size : Int) - (O + 1) := by
  rw [hc1, List.length_take, List.length_drop]; omega
 have hraw : (s.extract (O + 1).toNat T.toNat).data.toList = c.1 := by
  rw [Lib.extract_data, hc1]; congr 1; omega
 obtain ⟨R, hR⟩ : ∃ R, s.extract (O + 1).toNat T.toNat = R := ⟨_, rfl⟩
 have hraw0 := hraw
 rw [hR] at hraw
 have hRs : R.size ≤ s.size := by rw [Lib.size_eq, hraw]; omega
 have e5 : ¬ c.2.2 = false := by rw [hcf.1, decide_eq_true (by omega)]; decide
 rw [if_neg e5]
 have hfi : (0 ≤ findN R.data.toList (⟨#[60]⟩ : ByteArray).data.toList (0 : Int).toNat) ↔ 0 ≤ Lib.indexByte c.1 60 := by
  unfold findN
  have : Lib.index (R.data.toList.drop (0 : Int).toNat) (⟨#[60]⟩ : ByteArray).data.toList = Lib.indexByte c.1 60 := by
   show Lib.index (R.data.toList.drop 0) [60] = _
   rw [List.drop_zero, Lib.index_one, hraw]
  rw [this]
  split
  ·omega
  ·constructor <;> intro _ <;> omega
 have hpre : ∀ L, findN R.data.toList (⟨#[60]⟩ : ByteArray).data.toList (0 : Int).toNat = L → FindC (s.extract (O + 1).toNat T.toNat) 0 ⟨#[60]⟩ L := fun L hL => by rw [hR]; exact findC (by omega) (by omega) (by omega) (by decide) (by decide) hL
 by_cases c6 : 0 ≤ Lib.indexByte c.1 60
 ·rw [if_pos c6]
  exact ⟨a0, ⟨e0, e1, e2, wr64 (by omega) (by omega), T, hfT, .inr ⟨eq_false c5, eq_true (by omega), eq_true (by omega), eq_true (by omega), _, hpre _ rfl, .inl ⟨eq_true (hfi.2 c6), rfl⟩⟩⟩, rfl⟩
 rw [if_neg c6]
 refine ⟨(2, F, T + 1, s.extract F.toNat E.toNat, (decR ⟨#[]⟩ R.data.toList).1, (decR ⟨#[]⟩ R.data.toList).2), ⟨e0, e1, e2, wr64 (by omega) (by omega), T, hfT, .inr ⟨eq_false c5, eq_true (by omega), eq_true (by omega), eq_true (by omega), _, hpre _ rfl, .inr ⟨eq_false (fun h => c6 (hfi.1 h)), _, _, by rw [hR]; exact decC (by omega) rfl, wr64 (by omega) (by omega), eq_true (by omega), eq_true (by omega), eq_true (by omega), rfl⟩⟩⟩, ?_⟩
 unfold decR
 rw [hraw]
 cases hd : dec c.1 with
 | none => rfl
 | some v =>
  have hv : (⟨#[]⟩ : ByteArray) ++ (⟨v.toArray⟩ : ByteArray) = ⟨v.toArray⟩ := by
   apply ByteArray.ext; apply Array.ext'; simp [ByteArray.data_append]
  refine ⟨?_, rfl, ?_⟩
  ·show [_] = [(⟨2, F, T + 1, partB s F E, (⟨#[]⟩ : ByteArray) ++ (⟨v.toArray⟩ : ByteArray)⟩ : Tok)]
   rw [hv, show T + 1 = O + (c.1.length : Int) + 2 from by omega]
  ·show _ = T + 1
   omega
theorem attr_c (s : ByteArray) (a : Int) (hs : s.size ≤ 65536) (h0 : 0 ≤ a) (h1 : a ≤ (s.size : Int)) : ∃ R, AttrSame R (attrP s a) ∧ ∀ w, Calls Tryz.prog 117 #[.string s, .int .i64 a] w fun e w' => Ret R e ∧ Below w.heap.size w w' := by
 obtain ⟨R, h, h'⟩ := attr_C s a hs h0 h1
 exact ⟨R, h', fun w => attr_go h w⟩
end Go.Proofs.YtlhhhlimjajnlaaGreat.P12
end
