/- Parts of the proof of canonDocs_holds, kept and merged by a program of mine (wip/tools/slim.py) out of my texts: P11d P11y P12a P12b P12c P12d P12e AtW AtC TgW PcW LxW NdW -/
import Derived.Test.YtlhhhlimjajnlaaGreatSDc0
import Derived.Lib.IndexMore
import Derived.Lib.Hide
import Derived.Test.YtlhhhlimjajnlaaGreatSDc4
import Derived.Test.YtlhhhlimjajnlaaGreatSDc20
import Derived.Test.YtlhhhlimjajnlaaGreatSDc15
import Derived.Test.YtlhhhlimjajnlaaGreatSDc16
import Derived.Test.YtlhhhlimjajnlaaGreatSDc5
import Derived.Test.YtlhhhlimjajnlaaGreatSDc21
import Derived.Test.YtlhhhlimjajnlaaGreatSDc10
import Derived.Test.YtlhhhlimjajnlaaGreatSDc9
section
set_option linter.unusedVariables false
set_option linter.unusedSimpArgs false
namespace Go.Proofs.YtlhhhlimjajnlaaGreat.P11
open Go Go.RowKit Go.Proofs.YtlhhhlimjajnlaaGreat Go.Proofs.YtlhhhlimjajnlaaGreat.Q Go.Proofs.YtlhhhlimjajnlaaGreatW.PrintWords Go.Proofs.YtlhhhlimjajnlaaGreat.X Go.Proofs.YtlhhhlimjajnlaaGreat.RefE
def lessN (n : Nat) : Int := if n = 2 then 192 else if n = 3 then 224 else if n = 4 then 240 else 0
def codeGo : Int → List UInt8 → Int
 | c, [] => c
 | c, b :: t => codeGo (c * 64 + (b.toNat : Int) - 128) t
def refCode (n : Nat) : List UInt8 → Int
 | [] => 0
 | b :: t => codeGo ((b.toNat : Int) - lessN n) (t.take (n - 1))
theorem refCode_enc (c : Int) (hp : pointB c = true) (t : List UInt8) : refCode (sizeN c).toNat (encL c ++ t) = c := by
 have hb := point_range hp
 unfold encL sizeN
 rw [if_pos hp]
 by_cases h1 : c < 128
 ·rw [if_pos h1, if_pos h1]
  have e0 := byteI_nat c hb.1 (by omega)
  show codeGo ((byteI c).toNat - lessN 1) [] = c
  rw [codeGo, show lessN 1 = 0 from rfl]; omega
 rw [if_neg h1, if_neg h1]
 by_cases h2 : c < 2048
 ·rw [if_pos h2, if_pos h2]
  have e0 := byteI_nat (192 + c / 64) (by omega) (by omega)
  have e1 := byteI_nat (128 + c % 64) (by omega) (by omega)
  show codeGo ((byteI (192 + c / 64)).toNat - lessN 2) [byteI (128 + c % 64)] = c
  rw [codeGo, codeGo, show lessN 2 = 192 from rfl]; omega
 rw [if_neg h2, if_neg h2]
 by_cases h3 : c < 65536
 ·rw [if_pos h3, if_pos h3]
  have e0 := byteI_nat (224 + c / 4096) (by omega) (by omega)
  have e1 := byteI_nat (128 + c / 64 % 64) (by omega) (by omega)
  have e2 := byteI_nat (128 + c % 64) (by omega) (by omega)
  show codeGo ((byteI (224 + c / 4096)).toNat - lessN 3) [byteI (128 + c / 64 % 64), byteI (128 + c % 64)] = c
  rw [codeGo, codeGo, codeGo, show lessN 3 = 224 from rfl]; omega
 rw [if_neg h3, if_neg h3]
 have e0 := byteI_nat (240 + c / 262144) (by omega) (by omega)
 have e1 := byteI_nat (128 + c / 4096 % 64) (by omega) (by omega)
 have e2 := byteI_nat (128 + c / 64 % 64) (by omega) (by omega)
 have e3 := byteI_nat (128 + c % 64) (by omega) (by omega)
 show codeGo ((byteI (240 + c / 262144)).toNat - lessN 4) [byteI (128 + c / 4096 % 64), byteI (128 + c / 64 % 64), byteI (128 + c % 64)] = c
 rw [codeGo, codeGo, codeGo, codeGo, show lessN 4 = 240 from rfl]; omega
def tryN (n : Nat) (l : List UInt8) : Bool := decide (encL (refCode n l) ≠ []) && (encL (refCode n l) == l.take n)
theorem try_yes (n : Nat) (l : List UInt8) (hn : n ≤ l.length) (h : tryN n l = true) : decL l = (refCode n l, (n : Int)) := by
 unfold tryN at h
 simp only [Bool.and_eq_true, decide_eq_true_eq, beq_iff_eq] at h
 obtain ⟨h1, h2⟩ := h
 have hp : pointB (refCode n l) = true := by
  by_cases hp : pointB (refCode n l) = true
  ·exact hp
  ·exact absurd ((enc_nil _).2 (by simpa using hp)) h1
 have hl := enc_len _ hp
 have hd := dec_enc _ hp (l.drop n)
 rw [h2, List.take_append_drop] at hd
 rw [hd]
 congr 1
 rw [← hl, h2, List.length_take]
 omega
theorem try_at (l : List UInt8) (h : ¬ (decL l).2 = 0) : tryN (decL l).2.toNat l = true ∧ 1 ≤ (decL l).2.toNat ∧ (decL l).2.toNat ≤ 4 ∧ (decL l).2.toNat ≤ l.length := by
 obtain ⟨hp, hs, t, ht⟩ := enc_dec l h
 have hr := dec_range l
 have hl := enc_len _ hp
 refine ⟨?_, by omega, by omega, by omega⟩
 have hc : refCode (decL l).2.toNat l = (decL l).1 := by
  have := refCode_enc _ hp t
  rw [← ht, ← hs] at this
  exact this
 unfold tryN
 rw [hc]
 simp only [Bool.and_eq_true, decide_eq_true_eq, beq_iff_eq]
 refine ⟨fun e => ?_, ?_⟩
 ·rw [e] at hl
  have := sizeN_range (decL l).1
  simp at hl; omega
 ·have : l.take (decL l).2.toNat = (encL (decL l).1 ++ t).take (decL l).2.toNat := by rw [← ht]
  rw [this, hs, ← hl, Int.toNat_natCast, List.take_left]
def triesFrom (l : List UInt8) : Nat → Nat → Int × Int
 | 0, _ => (-1, 0)
 | d + 1, n => if n ≤ l.length then (if tryN n l then (refCode n l, (n : Int)) else triesFrom l d (n + 1)) else (-1, 0)
theorem tries_eq (l : List UInt8) : triesFrom l 4 1 = decL l := by
 have hno : ∀ d n, n + d = 5 → (∀ m, 1 ≤ m → m < n → tryN m l = true → ¬ m ≤ l.length) → triesFrom l d n = decL l := by
  intro d
  induction d with
  | zero =>
   intro n hn h
   rw [triesFrom]
   by_cases h0 : (decL l).2 = 0
   ·exact (dec_none l h0).symm
   ·obtain ⟨a, b, c, e⟩ := try_at l h0
    exact absurd e (h _ b (by omega) a)
  | succ d ih =>
   intro n hn h
   rw [triesFrom]
   by_cases hl : n ≤ l.length
   ·rw [if_pos hl]
    by_cases ht : tryN n l = true
    ·rw [if_pos ht]
     exact (try_yes n l hl ht).symm
    ·rw [if_neg ht]
     refine ih (n + 1) (by omega) fun m h1 h2 h3 => ?_
     by_cases hm : m = n
     ·subst hm; exact absurd h3 ht
     ·exact h m h1 (by omega) h3
   ·rw [if_neg hl]
    by_cases h0 : (decL l).2 = 0
    ·exact (dec_none l h0).symm
    ·obtain ⟨a, b, c, e⟩ := try_at l h0
     by_cases hm : (decL l).2.toNat < n
     ·exact absurd e (h _ b hm a)
     ·omega
 exact hno 4 1 rfl fun m h1 h2 => by omega
theorem code_bound : ∀ (t : List UInt8) (c : Int), t.length ≤ 3 → -1000 ≤ c → c ≤ 1000 → -300000000 ≤ codeGo c t ∧ codeGo c t ≤ 300000000 := by
 intro t c h h0 h1
 match t, h with
 | [], _ => rw [codeGo]; omega
 | [x], _ => have := x.toNat_lt; rw [codeGo, codeGo]; omega
 | [x, y], _ => have := x.toNat_lt; have := y.toNat_lt; rw [codeGo, codeGo, codeGo]; omega
 | [x, y, z], _ => have := x.toNat_lt; have := y.toNat_lt; have := z.toNat_lt; rw [codeGo, codeGo, codeGo, codeGo]; omega
def endOf (k : Nat) (s : ByteArray) (a n : Nat) (code : Int) : Option (Int × Int) :=
 if encL code = [] then R1_Rune.l0 k s a ((n : Int) + 1) else if encL code = (s.data.toList.drop a).take n then some (code, (n : Int)) else R1_Rune.l0 k s a ((n : Int) + 1)
theorem rune_l1 (s : ByteArray) (a n : Nat) (hs : s.size ≤ 4294967296) (hn : n ≤ 4) (ha : a + n ≤ s.size) (d : Nat) : ∀ (i k : Nat) (c : Int), i + d = n → 1 ≤ i → i ≤ 4 → -300000000 ≤ c → c ≤ 300000000 →
 (∀ j, j ≤ d → -300000000 ≤ codeGo c ((s.data.toList.drop (a + i)).take j) ∧ codeGo c ((s.data.toList.drop (a + i)).take j) ≤ 300000000) →
 R1_Rune.l1 (k + d + 1) s a n c i = endOf k s a n (codeGo c ((s.data.toList.drop (a + i)).take d)) := by
 induction d with
 | zero =>
  intro i k c hi h1 h4 hc0 hc1 hall
  rw [R1_Rune.l1, if_neg (by omega), encode_f, Option.bind_some, List.take_zero, codeGo, Lib.toList_data]
  unfold endOf
  have hdat : (⟨(encL c).toArray⟩ : ByteArray).data.toList = encL c := rfl
  rw [hdat, wr ((n : Int) + 1) (by omega) (by omega)]
  by_cases he : encL c = []
  ·rw [if_pos he, if_pos he]
  rw [if_neg he, if_neg he, if_pos (by omega), wr ((a : Int) + (n : Int)) (by omega) (by omega), if_pos (by omega), if_pos (by omega), Lib.extract_toList, Int.toNat_natCast, show ((a : Int) + (n : Int)).toNat - a = n from by omega]
 | succ d ih =>
  intro i k c hi h1 h4 hc0 hc1 hall
  have hlt : a + i < s.size := by omega
  rw [show k + (d + 1) + 1 = (k + d + 1) + 1 from by omega, R1_Rune.l1, if_pos (by omega)]
  have hw : wrap64 ((a : Int) + (i : Int)) = ((a + i : Nat) : Int) := by rw [wr _ (by omega) (by omega)]; omega
  rw [hw, if_pos (by omega), if_pos (by omega), if_neg (by omega), bt_get s _ hlt, drop_cons s _ hlt, List.take_succ_cons, codeGo]
  obtain ⟨x, hx⟩ : ∃ x, s[a + i] = x := ⟨_, rfl⟩
  rw [hx]
  have hxl := x.toNat_lt
  have hall' : ∀ j, j ≤ d → -300000000 ≤ codeGo (c * 64 + (x.toNat : Int) - 128) ((s.data.toList.drop (a + i + 1)).take j) ∧ codeGo (c * 64 + (x.toNat : Int) - 128) ((s.data.toList.drop (a + i + 1)).take j) ≤ 300000000 := by
   intro j hj
   have := hall (j + 1) (by omega)
   rw [drop_cons s _ hlt, List.take_succ_cons, codeGo, hx] at this
   exact this
  have h0 := hall' 0 (by omega)
  rw [List.take_zero, codeGo] at h0
  rw [wr (c * 64) (by omega) (by omega), wr (x.toNat : Int) (by omega) (by omega), wr (c * 64 + (x.toNat : Int)) (by omega) (by omega), wr (c * 64 + (x.toNat : Int) - 128) (by omega) (by omega), wr ((i : Int) + 1) (by omega) (by omega)]
  have := ih (i + 1) k (c * 64 + (x.toNat : Int) - 128) (by omega) (by omega) (by omega) h0.1 h0.2 hall'
  rw [show ((i + 1 : Nat) : Int) = (i : Int) + 1 from by omega, show a + (i + 1) = a + i + 1 from by omega] at this
  exact this
theorem rune_try (s : ByteArray) (a n : Nat) (hs : s.size ≤ 4294967296) (h1 : 1 ≤ n) (hn : n ≤ 4) (ha : a + n ≤ s.size) (k : Nat) :
 R1_Rune.l1 (k + n + 2) s a n 0 0 = endOf k s a n (refCode n (s.data.toList.drop a)) := by
 have hlt : a < s.size := by omega
 rw [R1_Rune.l1, if_pos (by omega)]
 have hw : wrap64 ((a : Int) + 0) = (a : Int) := by rw [wr _ (by omega) (by omega)]; omega
 rw [hw, if_pos (by omega), if_pos (by omega), if_pos rfl, bt_get s _ hlt, drop_cons s _ hlt]
 obtain ⟨x, hx⟩ : ∃ x, s[a] = x := ⟨_, rfl⟩
 rw [hx]
 have hxl := x.toNat_lt
 rw [wr (x.toNat : Int) (by omega) (by omega)]
 have hless : 0 ≤ lessN n ∧ lessN n ≤ 240 := by unfold lessN; repeat' split <;> omega
 have hj : ∀ y : Int, (n ≠ 3 → n ≠ 4 → y = lessN n) → R1_Rune.j4 (k + n + 1) s a n 0 (x.toNat : Int) y = R1_Rune.l1 (k + n) s a n ((x.toNat : Int) - lessN n) 1 := by
  intro y hy
  rw [R1_Rune.j4]
  by_cases h3 : n = 3
  ·subst h3
   rw [if_pos (by omega), if_neg (by omega), wr _ (by omega) (by omega), wr _ (by omega) (by omega)]
   rfl
  ·rw [if_neg (by omega)]
   by_cases h4 : n = 4
   ·subst h4
    rw [if_pos (by omega), wr _ (by omega) (by omega), wr _ (by omega) (by omega)]
    rfl
   ·rw [if_neg (by omega), hy h3 h4, wr _ (by omega) (by omega), wr _ (by omega) (by omega)]
    rfl
 have hfin : R1_Rune.l1 (k + n) s a n ((x.toNat : Int) - lessN n) 1 = endOf k s a n (refCode n (x :: s.data.toList.drop (a + 1))) := by
  have hb : ∀ j, j ≤ n - 1 → -300000000 ≤ codeGo ((x.toNat : Int) - lessN n) ((s.data.toList.drop (a + 1)).take j) ∧ codeGo ((x.toNat : Int) - lessN n) ((s.data.toList.drop (a + 1)).take j) ≤ 300000000 :=
   fun j hj => code_bound _ _ (by rw [List.length_take]; omega) (by omega) (by omega)
  have := rune_l1 s a n hs hn ha (n - 1) 1 k ((x.toNat : Int) - lessN n) (by omega) (by omega) (by omega) (by omega) (by omega) hb
  rw [show k + (n - 1) + 1 = k + n from by omega] at this
  exact this
 by_cases h2 : n = 2
 ·subst h2
  rw [if_pos (by rfl), hj 192 (fun _ _ => rfl), hfin]
 ·rw [if_neg (by omega), hj 0 (fun h3 h4 => by unfold lessN; rw [if_neg h2, if_neg h3, if_neg h4]), hfin]
theorem rune_l0 (s : ByteArray) (a : Nat) (hs : s.size ≤ 4294967296) (ha : a < s.size) (d : Nat) : ∀ (n k : Nat), n + d = 5 → 1 ≤ n → 10 * d + 2 ≤ k →
 R1_Rune.l0 k s a n = some (triesFrom (s.data.toList.drop a) d n) := by
 have hlen : (s.data.toList.drop a).length = s.size - a := by rw [List.length_drop, len_data]
 induction d with
 | zero =>
  intro n k hn h1 hk
  obtain ⟨k, rfl⟩ : ∃ m, k = m + 2 := ⟨k - 2, by omega⟩
  rw [R1_Rune.l0, if_neg (by omega), R1_Rune.j2, if_neg (by decide), triesFrom]
 | succ d ih =>
  intro n k hn h1 hk
  obtain ⟨k, rfl⟩ : ∃ m, k = m + n + 4 := ⟨k - n - 4, by omega⟩
  rw [R1_Rune.l0, if_pos (by omega), wr ((s.size : Int) - (a : Int)) (by omega) (by omega), triesFrom]
  by_cases hl : n ≤ (s.data.toList.drop a).length
  ·rw [if_pos hl, show decide ((n : Int) ≤ (s.size : Int) - (a : Int)) = true from by simp; omega, R1_Rune.j2, if_pos rfl, rune_try s a n hs h1 (by omega) (by omega)]
   unfold endOf
   have hr := ih (n + 1) k (by omega) (by omega) (by omega)
   rw [show ((n + 1 : Nat) : Int) = (n : Int) + 1 from by omega] at hr
   by_cases he : encL (refCode n (s.data.toList.drop a)) = []
   ·have ht : tryN n (s.data.toList.drop a) = false := by unfold tryN; simp [he]
    rw [if_pos he, ht, hr]; rfl
   ·rw [if_neg he]
    by_cases he2 : encL (refCode n (s.data.toList.drop a)) = (s.data.toList.drop a).take n
    ·have ht : tryN n (s.data.toList.drop a) = true := by unfold tryN; simp [he, ← he2]
     rw [if_pos he2, ht]; rfl
    ·have ht : tryN n (s.data.toList.drop a) = false := by unfold tryN; simp [he2]
     rw [if_neg he2, ht, hr]; rfl
  ·rw [if_neg hl, show decide ((n : Int) ≤ (s.size : Int) - (a : Int)) = false from by simp; omega, R1_Rune.j2, if_neg (by decide)]
theorem ref_rune_f (s : ByteArray) (a : Int) (hs : s.size ≤ 4294967296) (k : Nat) : R1_Rune.f (k + 43) s a = some (runeP s.data.toList a) := by
 have hl := len_data s
 unfold R1_Rune.f runeP
 by_cases h0 : a < 0
 ·rw [if_pos h0, R1_Rune.j0, if_pos rfl, if_neg (by omega)]
 rw [if_neg h0]
 by_cases h1 : a ≥ (s.size : Int)
 ·rw [show decide (a ≥ (s.size : Int)) = true from by simpa using h1, R1_Rune.j0, if_pos rfl, if_neg (by omega)]
 ·obtain ⟨n, rfl⟩ := Int.eq_ofNat_of_zero_le (by omega : 0 ≤ a)
  rw [show decide ((n : Int) ≥ (s.size : Int)) = false from by simpa using h1, R1_Rune.j0, if_neg (by decide), if_pos (by omega), Int.toNat_natCast]
  have := rune_l0 s n hs (by omega) 4 1 (k + 42) rfl (by omega) (by omega)
  rw [tries_eq] at this
  exact this
theorem ref_valid_l0 (s : ByteArray) (hs : s.size ≤ 4294967296) (d : Nat) : ∀ (n k : Nat), s.size - n = d → n ≤ s.size → d + 50 ≤ k → R1_Valid.l0 k s n = some (validL (s.data.toList.drop n)) := by
 induction d using Nat.strongRecOn with
 | ind d ih =>
  intro n k hd hn hk
  obtain ⟨k, rfl⟩ : ∃ m, k = m + 1 := ⟨k - 1, by omega⟩
  rw [R1_Valid.l0]
  by_cases hlt : n < s.size
  ·rw [if_pos (by omega), show k = (k - 43) + 43 from by omega, ref_rune_f s n hs, Option.bind_some, allowed_f, Option.bind_some, valid_at s n hlt]
   have hp : runeP s.data.toList (n : Int) = decL (s.data.toList.drop n) := by
    unfold runeP
    rw [if_pos ⟨by omega, by rw [len_data]; omega⟩, Int.toNat_natCast]
   have hr := dec_range (s.data.toList.drop n)
   rw [← hp, List.length_drop, len_data] at hr
   by_cases h0 : (runeP s.data.toList (n : Int)).2 = 0
   ·rw [if_pos h0, h0]; rfl
   ·rw [if_neg h0, show decide (0 < (runeP s.data.toList (n : Int)).2) = true from by simp; omega, Bool.true_and]
    by_cases ha : allowedB (runeP s.data.toList (n : Int)).1 = true
    ·rw [if_pos ha, ha, Bool.true_and, wr _ (by omega) (by omega), show (n : Int) + (runeP s.data.toList (n : Int)).2 = ((n + (runeP s.data.toList (n : Int)).2.toNat : Nat) : Int) from by omega]
     exact ih _ (by omega) _ _ rfl (by omega) (by omega)
    ·rw [if_neg ha, show allowedB (runeP s.data.toList (n : Int)).1 = false from by simpa using ha]; rfl
  ·rw [if_neg (by omega), List.drop_of_length_le (by rw [len_data]; omega)]; rfl
theorem ref_valid_f (s : ByteArray) (hs : s.size ≤ 4294967296) (k : Nat) : R1_Valid.f (s.size + 50 + k) s = some (validL s.data.toList) :=
 ref_valid_l0 s hs s.size 0 _ (by omega) (by omega) (by omega)
theorem nat_of_bt (s : ByteArray) (n : Nat) (h : n < s.size) (c : UInt8) (hc : s[n] = c) : bt s (n : Int) = (c.toNat : Int) := by rw [bt_get s n h, hc]
theorem ref_space_f (c : UInt8) : R1_Space.f (c.toNat : Int) = some (spaceB c) := by
 unfold R1_Space.f spaceB
 repeat' split
 all_goals
  congr 1
  rw [Bool.eq_iff_iff]
  simp
  omega
theorem ref_skip_l0 (s : ByteArray) (hs : s.size ≤ 4294967296) (d : Nat) : ∀ (n k : Nat), s.size - n = d → n ≤ s.size → 2 * d + 2 ≤ k → R1_Skip.l0 k s n = some ((n : Int) + ((s.data.toList.drop n).takeWhile spaceB).length) := by
 induction d with
 | zero =>
  intro n k hd hn hk
  obtain ⟨k, rfl⟩ : ∃ m, k = m + 2 := ⟨k - 2, by omega⟩
  rw [R1_Skip.l0, if_pos (by omega), show decide ((n : Int) < (s.size : Int)) = false from by simp; omega, R1_Skip.j1, if_neg (by decide), List.drop_of_length_le (by rw [len_data]; omega)]
  simp
 | succ d ih =>
  intro n k hd hn hk
  obtain ⟨k, rfl⟩ : ∃ m, k = m + 2 := ⟨k - 2, by omega⟩
  have hlt : n < s.size := by omega
  rw [R1_Skip.l0, if_pos (by omega), show decide ((n : Int) < (s.size : Int)) = true from by simp; omega, R1_Skip.j1, if_pos rfl, if_pos (by omega), if_pos (by omega), drop_cons s n hlt]
  obtain ⟨c, hc⟩ : ∃ c, s[n] = c := ⟨_, rfl⟩
  rw [nat_of_bt s n hlt c hc, ref_space_f, Option.bind_some, hc]
  by_cases h : spaceB c = true
  ·rw [if_pos h, List.takeWhile_cons_of_pos h, wr _ (by omega) (by omega)]
   have := ih (n + 1) k (by omega) (by omega) (by omega)
   rw [show ((n + 1 : Nat) : Int) = (n : Int) + 1 from by omega] at this
   rw [this, List.length_cons]
   congr 1
   omega
  ·rw [if_neg h, List.takeWhile_cons_of_neg h]
   simp
theorem ref_skip_f (s : ByteArray) (a : Int) (hs : s.size ≤ 4294967296) (k : Nat) : R1_Skip.f (2 * s.size + 2 + k) s a = some (skipP s.data.toList a) := by
 unfold R1_Skip.f skipP
 have hl := len_data s
 by_cases h0 : 0 ≤ a ∧ a ≤ s.size
 ·obtain ⟨n, rfl⟩ := Int.eq_ofNat_of_zero_le h0.1
  rw [ref_skip_l0 s hs (s.size - n) n _ rfl (by omega) (by omega), Int.toNat_natCast]
  by_cases h1 : (n : Int) < (s.data.toList.length : Int)
  ·rw [if_pos ⟨h0.1, h1⟩]
  ·rw [if_neg (fun h => h1 h.2), List.drop_of_length_le (by omega)]
   simp
 ·rw [if_neg (by omega)]
  rw [show 2 * s.size + 2 + k = (2 * s.size + k) + 2 from by omega, R1_Skip.l0]
  by_cases h2 : a ≥ 0
  ·rw [if_pos h2, show decide (a < (s.size : Int)) = false from by simp; omega, R1_Skip.j1, if_neg (by decide)]
  ·rw [if_neg h2, R1_Skip.j1, if_neg (by decide)]
set_option maxHeartbeats 4000000 in
theorem ref_name_step (s : ByteArray) (a : Int) (n : Nat) (hs : s.size ≤ 4294967296) (hlt : n < s.size) (c : UInt8) (hc : s[n] = c) (k : Nat) :
 R1_NameEnd.l0 (k + 2) s a n = if nameB c = true ∨ (moreB c = true ∧ (n : Int) ≠ a) then R1_NameEnd.l0 k s a ((n + 1 : Nat) : Int) else some (n : Int) := by
 have hw : wrap64 ((n : Int) + 1) = ((n + 1 : Nat) : Int) := by rw [wr _ (by omega) (by omega)]; omega
 rw [R1_NameEnd.l0, if_pos (by omega), show decide ((n : Int) < (s.size : Int)) = true from by simp; omega, R1_NameEnd.j1, if_pos rfl, if_pos (by omega), if_pos (by omega), nat_of_bt s n hlt c hc, hw]
 have hcl := c.toNat_lt
 unfold nameB moreB
 simp only [decide_eq_true_eq]
 generalize R1_NameEnd.l0 k s a ((n + 1 : Nat) : Int) = A
 generalize c.toNat = v at *
 clear hw hc hs hlt
 repeat' (first | (exfalso; omega) | split)
 all_goals rfl
theorem ref_name_l0 (s : ByteArray) (a : Int) (hs : s.size ≤ 4294967296) (d : Nat) : ∀ (n k : Nat), s.size - n = d → n ≤ s.size → a < n → 2 * d + 2 ≤ k → R1_NameEnd.l0 k s a n = some ((n : Int) + ((s.data.toList.drop n).takeWhile fun c => nameB c || moreB c).length) := by
 induction d with
 | zero =>
  intro n k hd hn ha hk
  obtain ⟨k, rfl⟩ : ∃ m, k = m + 2 := ⟨k - 2, by omega⟩
  rw [R1_NameEnd.l0, if_pos (by omega), show decide ((n : Int) < (s.size : Int)) = false from by simp; omega, R1_NameEnd.j1, if_neg (by decide), List.drop_of_length_le (by rw [len_data]; omega)]
  simp
 | succ d ih =>
  intro n k hd hn ha hk
  obtain ⟨k, rfl⟩ : ∃ m, k = m + 2 := ⟨k - 2, by omega⟩
  have hlt : n < s.size := by omega
  obtain ⟨c, hc⟩ : ∃ c, s[n] = c := ⟨_, rfl⟩
  rw [ref_name_step s a n hs hlt c hc, drop_cons s n hlt, hc]
  by_cases h : (nameB c || moreB c) = true
  ·rw [List.takeWhile_cons_of_pos (p := fun c => nameB c || moreB c) h, if_pos (by
    simp only [Bool.or_eq_true] at h
    exact h.imp_right fun h => ⟨h, by omega⟩), ih (n + 1) k (by omega) (by omega) (by omega) (by omega), List.length_cons]
   congr 1
   omega
  ·rw [List.takeWhile_cons_of_neg (p := fun c => nameB c || moreB c) h, if_neg (fun h' => h (by
    simp only [Bool.or_eq_true]
    exact h'.imp_right fun h => h.1))]
   simp
theorem ref_name_f (s : ByteArray) (a : Int) (hs : s.size ≤ 4294967296) (k : Nat) : R1_NameEnd.f (2 * s.size + 2 + k) s a = some (nameEndP s.data.toList a) := by
 unfold R1_NameEnd.f nameEndP
 have hl := len_data s
 by_cases h0 : 0 ≤ a ∧ a < s.size
 ·obtain ⟨n, rfl⟩ := Int.eq_ofNat_of_zero_le h0.1
  have hlt : n < s.size := by omega
  obtain ⟨c, hc⟩ : ∃ c, s[n] = c := ⟨_, rfl⟩
  rw [if_pos ⟨h0.1, by omega⟩, Int.toNat_natCast, show 2 * s.size + 2 + k = (2 * s.size + k) + 2 from by omega, ref_name_step s n n hs hlt c hc, drop_cons s n hlt, hc]
  simp only [nameLen]
  by_cases hn : nameB c = true
  ·rw [if_pos (.inl hn), if_pos hn, ref_name_l0 s n hs (s.size - (n + 1)) (n + 1) _ rfl (by omega) (by omega) (by omega)]
   congr 1
   omega
  ·rw [if_neg (by simp [hn]), if_neg hn]
   simp
 ·rw [if_neg (by omega), show 2 * s.size + 2 + k = (2 * s.size + k) + 2 from by omega, R1_NameEnd.l0]
  by_cases h2 : a ≥ 0
  ·rw [if_pos h2, show decide (a < (s.size : Int)) = false from by simp; omega, R1_NameEnd.j1, if_neg (by decide)]
  ·rw [if_neg h2, R1_NameEnd.j1, if_neg (by decide)]
theorem ref_escape_l0 (s : ByteArray) (hs : s.size ≤ 4294967296) (d : Nat) : ∀ (n k : Nat) (t : ByteArray), s.size - n = d → n ≤ s.size → d + 1 ≤ k → t.size ≤ 6 * n → R1_Escape.l0 k s t n = some (t ++ ⟨(escL (s.data.toList.drop n)).toArray⟩) := by
 have happ : ∀ (t : ByteArray) (l : List UInt8), (t ++ (⟨l.toArray⟩ : ByteArray)).size = t.size + l.length := by
  intro t l
  have h : (⟨l.toArray⟩ : ByteArray).size = l.length := by simp [ByteArray.size]
  rw [ByteArray.size_append, h]
 induction d with
 | zero =>
  intro n k t hd hn hk ht
  obtain ⟨k, rfl⟩ : ∃ m, k = m + 1 := ⟨k - 1, by omega⟩
  rw [R1_Escape.l0, if_neg (by omega), List.drop_of_length_le (by rw [len_data]; omega)]
  congr 1
  exact (ByteArray.append_empty).symm
 | succ d ih =>
  intro n k t hd hn hk ht
  obtain ⟨k, rfl⟩ : ∃ m, k = m + 1 := ⟨k - 1, by omega⟩
  have hlt : n < s.size := by omega
  obtain ⟨c, hc⟩ : ∃ c, s[n] = c := ⟨_, rfl⟩
  have hw : wrap64 ((n : Int) + 1) = ((n + 1 : Nat) : Int) := by rw [wr _ (by omega) (by omega)]; omega
  have hstep : ∀ l : List UInt8, l.length ≤ 6 → escB c = l → R1_Escape.l0 k s (t ++ (⟨l.toArray⟩ : ByteArray)) ((n + 1 : Nat) : Int) = some (t ++ ⟨(escL (s.data.toList.drop n)).toArray⟩) := by
   intro l hl he
   rw [ih (n + 1) k _ (by omega) (by omega) (by omega) (by rw [happ]; omega), drop_cons s n hlt, hc]
   congr 1
   rw [ByteArray.append_assoc]
   congr 1
   have : escL (c :: s.data.toList.drop (n + 1)) = l ++ escL (s.data.toList.drop (n + 1)) := by rw [← he]; simp [escL]
   rw [this, ← List.append_toArray]
   apply ByteArray.ext
   rw [ByteArray.data_append]
  rw [R1_Escape.l0, if_pos (by omega), if_pos (by omega), nat_of_bt s n hlt c hc, hw]
  have hne : ∀ b : UInt8, ¬ c = b → ¬ ((c.toNat : Int) = (b.toNat : Int)) := fun b h e => h (UInt8.toNat_inj.1 (by omega))
  by_cases h1 : c = 38
  ·subst h1
   rw [if_pos (show (((38 : UInt8).toNat : Int)) = 38 from rfl), if_pos (by omega)]
   exact hstep [38, 97, 109, 112, 59] (by decide) rfl
  rw [if_neg (show ¬ ((c.toNat : Int) = 38) from hne 38 h1)]
  by_cases h2 : c = 60
  ·subst h2
   rw [if_pos (show (((60 : UInt8).toNat : Int)) = 60 from rfl), if_pos (by omega)]
   exact hstep [38, 108, 116, 59] (by decide) rfl
  rw [if_neg (show ¬ ((c.toNat : Int) = 60) from hne 60 h2)]
  by_cases h3 : c = 62
  ·subst h3
   rw [if_pos (show (((62 : UInt8).toNat : Int)) = 62 from rfl), if_pos (by omega)]
   exact hstep [38, 103, 116, 59] (by decide) rfl
  rw [if_neg (show ¬ ((c.toNat : Int) = 62) from hne 62 h3)]
  by_cases h4 : c = 34
  ·subst h4
   rw [if_pos (show (((34 : UInt8).toNat : Int)) = 34 from rfl), if_pos (by omega)]
   exact hstep [38, 113, 117, 111, 116, 59] (by decide) rfl
  rw [if_neg (show ¬ ((c.toNat : Int) = 34) from hne 34 h4), if_pos (by omega), if_pos (by omega)]
  have hx : s.extract (n : Int).toNat ((n + 1 : Nat) : Int).toNat = ⟨[c].toArray⟩ := by
   rw [Lib.extract_eq, Int.toNat_natCast, Int.toNat_natCast, drop_cons s n hlt, hc, show n + 1 - n = 1 from by omega]
   rfl
  rw [hx, if_pos (by rw [show (⟨[c].toArray⟩ : ByteArray).size = 1 from rfl]; omega)]
  exact hstep [c] (by simp) (by unfold escB; rw [if_neg h1, if_neg h2, if_neg h3, if_neg h4])
theorem ref_escape_f (s : ByteArray) (hs : s.size ≤ 4294967296) (k : Nat) : R1_Escape.f (s.size + 1 + k) s = some ⟨(escL s.data.toList).toArray⟩ := by
 have := ref_escape_l0 s hs s.size 0 (s.size + 1 + k) ⟨#[]⟩ (by omega) (by omega) (by omega) (by decide)
 rw [List.drop_zero] at this
 unfold R1_Escape.f
 refine this.trans ?_
 congr 1
theorem name_f (s : ByteArray) (hs : s.size ≤ 4294967296) : chars_Name.f s = some (if s.data.toList = [] then false else nameEndP s.data.toList 0 == (s.size : Int)) := by
 unfold chars_Name.f
 rw [Lib.toList_data]
 by_cases h : s.data.toList = []
 ·rw [if_pos h, if_pos h]
 ·rw [if_neg h, if_neg h, chars_NameEnd.f, if_pos hs]; rfl
end Go.Proofs.YtlhhhlimjajnlaaGreat.P11
end
section
set_option linter.unusedVariables false
set_option linter.unusedSimpArgs false
namespace Go.Proofs.YtlhhhlimjajnlaaGreat.P12
open Go Go.RowKit Go.Proofs.YtlhhhlimjajnlaaGreat Go.Proofs.YtlhhhlimjajnlaaGreat.Q Go.Proofs.YtlhhhlimjajnlaaGreatW.PrintWords Go.Proofs.YtlhhhlimjajnlaaGreat.X Go.Proofs.YtlhhhlimjajnlaaGreat.P11
theorem prefix_take (t l : List UInt8) : t.isPrefixOf l = (l.take t.length == t) := by
 rw [Bool.eq_iff_iff, beq_iff_eq, List.isPrefixOf_iff_prefix]
 constructor
 ·rintro ⟨r, rfl⟩; simp
 ·intro h
  refine ⟨l.drop t.length, ?_⟩
  have := List.take_append_drop t.length l
  rw [h] at this; exact this
theorem stands_out (s t : ByteArray) (i : Int) (h0 : 0 ≤ i) (ht : 0 < t.size) (h : ¬ i + t.size ≤ (s.size : Int)) : standsB s i t = false := by
 unfold standsB Lib.hasPrefix
 rw [Bool.eq_false_iff]
 intro hp
 obtain ⟨r, hr⟩ := List.isPrefixOf_iff_prefix.1 hp
 have := congrArg List.length hr
 rw [List.length_append, List.length_drop, ← Lib.size_eq, ← Lib.size_eq] at this
 omega
theorem part_is (s t : ByteArray) (i : Int) (h0 : 0 ≤ i) (h : i + t.size ≤ (s.size : Int)) : ((s.extract i.toNat (i + (t.size : Int)).toNat).toList == t.toList) = standsB s i t := by
 unfold standsB Lib.hasPrefix
 rw [prefix_take, Lib.toList_data, Lib.toList_data, Lib.extract_data, show (i + (t.size : Int)).toNat - i.toNat = t.data.toList.length from by rw [← Lib.size_eq]; omega]
theorem begins_f (s t : ByteArray) (i : Int) (h0 : 0 ≤ i) (hi : i ≤ 4294967296) (ht : 0 < t.size) (hts : t.size ≤ 4294967296) : R2_begins.f s i t = some (standsB s i t) := by
 unfold R2_begins.f
 rw [cwr _ (by omega) (by omega)]
 by_cases h : i + (t.size : Int) ≤ (s.size : Int)
 ·rw [if_pos h, if_pos h0, if_pos (by omega), part_is s t i h0 h]
 ·rw [if_neg h, stands_out s t i h0 ht h]
def findN (l t : List UInt8) (i : Nat) : Int := if Lib.index (l.drop i) t < 0 then -1 else i + Lib.index (l.drop i) t
theorem find_l0 (s t : ByteArray) (hs : s.size ≤ 4294967296) (ht : 0 < t.size) (hts : t.size ≤ 4294967296) (d : Nat) : ∀ (n k : Nat), s.size + 1 - n = d → n ≤ s.size + 1 → d + 1 ≤ k → R2_find.l0 k s t n = some (findN s.data.toList t.data.toList n) := by
 have hsz : s.data.toList.length = s.size := (Lib.size_eq s).symm
 have htl : t.data.toList.length = t.size := (Lib.size_eq t).symm
 have hout : ∀ n : Nat, ¬ n + t.size ≤ s.size → Lib.index (s.data.toList.drop n) t.data.toList = -1 := by
  intro n hn
  by_cases hi : 0 ≤ Lib.index (s.data.toList.drop n) t.data.toList
  ·have := Lib.index_room _ _ hi
   rw [List.length_drop] at this; omega
  ·have := Lib.index_ge (s.data.toList.drop n) t.data.toList; omega
 induction d with
 | zero =>
  intro n k hd hn hk
  obtain ⟨k, rfl⟩ : ∃ j, k = j + 1 := ⟨k - 1, by omega⟩
  unfold R2_find.l0
  rw [cwr _ (by omega) (by omega), if_neg (by omega)]
  unfold findN
  rw [hout n (by omega), if_pos (by omega)]
 | succ d ih =>
  intro n k hd hn hk
  obtain ⟨k, rfl⟩ : ∃ j, k = j + 1 := ⟨k - 1, by omega⟩
  unfold R2_find.l0
  rw [cwr _ (by omega) (by omega)]
  by_cases h : (n : Int) + (t.size : Int) ≤ (s.size : Int)
  ·have hcons := List.drop_eq_getElem_cons (show n < s.data.toList.length by omega)
   have hp := part_is s t n (by omega) h
   rw [if_pos h, if_pos (by omega), if_pos (by omega)]
   have hst : standsB s n t = t.data.toList.isPrefixOf (s.data.toList.drop n) := by unfold standsB Lib.hasPrefix; rw [show ((n : Nat) : Int).toNat = n from by omega]
   rw [hst] at hp
   by_cases hq : t.data.toList.isPrefixOf (s.data.toList.drop n) = true
   ·rw [hq, beq_iff_eq] at hp
    rw [if_pos hp]
    unfold findN
    have : Lib.index (s.data.toList.drop n) t.data.toList = 0 := by
     rw [hcons] at hq ⊢
     show (if _ then _ else _) = _
     rw [if_pos hq]
    rw [this, if_neg (by omega)]; simp
   ·have hp' : ¬ _ := fun e => hq (by rw [← hp, beq_iff_eq]; exact e)
    rw [if_neg hp', cwr _ (by omega) (by omega), show ((n : Nat) : Int) + 1 = ((n + 1 : Nat) : Int) from by omega, ih (n + 1) k (by omega) (by omega) (by omega)]
    unfold findN
    have hx : Lib.index (s.data.toList.drop n) t.data.toList = if Lib.index (s.data.toList.drop (n + 1)) t.data.toList == -1 then -1 else Lib.index (s.data.toList.drop (n + 1)) t.data.toList + 1 := by
     rw [hcons] at hq ⊢
     show (if _ then _ else _) = _
     rw [if_neg hq]
    have hge := Lib.index_ge (s.data.toList.drop (n + 1)) t.data.toList
    rw [hx]
    generalize Lib.index (s.data.toList.drop (n + 1)) t.data.toList = J at hge
    by_cases hm : J = -1
    ·subst hm; rfl
    ·have e1 : (J == -1) = false := beq_eq_false_iff_ne.2 hm
     rw [e1]
     simp only [Bool.false_eq_true, if_false]
     rw [if_neg (show ¬ J < 0 by omega), if_neg (show ¬ J + 1 < 0 by omega)]
     congr 1; omega
  ·rw [if_neg h]
   unfold findN
   rw [hout n (by omega), if_pos (by omega)]
theorem find_f (s t : ByteArray) (i : Int) (h0 : 0 ≤ i) (hi : i ≤ (s.size : Int) + 1) (hs : s.size ≤ 4294967296) (ht : 0 < t.size) (hts : t.size ≤ 4294967296) (k : Nat) (hk : s.size + 2 ≤ k) : R2_find.f k s i t = some (findN s.data.toList t.data.toList i.toNat) := by
 unfold R2_find.f
 have := find_l0 s t hs ht hts (s.size + 1 - i.toNat) i.toNat k rfl (by omega) (by omega)
 rw [show ((i.toNat : Nat) : Int) = i from by omega] at this
 exact this
def decR (t : ByteArray) (l : List UInt8) : ByteArray × Bool := match dec l with
 | some v => (t ++ ⟨v.toArray⟩, true)
 | none => (⟨#[]⟩, false)
theorem app_mk (t : ByteArray) (v u : List UInt8) : t ++ (⟨(v ++ u).toArray⟩ : ByteArray) = (t ++ ⟨v.toArray⟩) ++ ⟨u.toArray⟩ := by
 apply ByteArray.ext; apply Array.ext'
 simp [ByteArray.data_append, List.append_assoc]
theorem decR_map (t : ByteArray) (v : List UInt8) (l u : List UInt8) (h : dec l = (dec u).map (v ++ ·)) : decR t l = decR (t ++ ⟨v.toArray⟩) u := by
 unfold decR
 rw [h]
 cases dec u with
 | none => rfl
 | some w => show (t ++ (⟨(v ++ w).toArray⟩ : ByteArray), true) = _; rw [app_mk]
theorem app_nil (t : ByteArray) : t ++ (⟨([] : List UInt8).toArray⟩ : ByteArray) = t := by
 apply ByteArray.ext; apply Array.ext'
 simp [ByteArray.data_append]
theorem mk_size (v : List UInt8) : (⟨v.toArray⟩ : ByteArray).size = v.length := by simp [ByteArray.size]
theorem decoded_l0 (s : ByteArray) (hs : s.size ≤ 4294967000) (d : Nat) : ∀ (n k : Nat) (t : ByteArray), s.size - n ≤ d → n ≤ s.size → d + 1 ≤ k → t.size ≤ 4 * n → R2_decoded.l0 k s t n = some (decR t (s.data.toList.drop n)) := by
 have hsz : s.data.toList.length = s.size := (Lib.size_eq s).symm
 have hend : ∀ (k : Nat) (t : ByteArray), 1 ≤ k → R2_decoded.l0 k s t s.size = some (decR t (s.data.toList.drop s.size)) := by
  intro k t hk
  obtain ⟨k, rfl⟩ : ∃ j, k = j + 1 := ⟨k - 1, by omega⟩
  unfold R2_decoded.l0
  rw [if_neg (by omega), List.drop_of_length_le (by omega)]
  unfold decR
  rw [dec_nil]
  show some (t, true) = some (t ++ (⟨([] : List UInt8).toArray⟩ : ByteArray), true)
  rw [app_nil]
 induction d with
 | zero =>
  intro n k t hd hn hk ht
  have : n = s.size := by omega
  subst this
  exact hend k t (by omega)
 | succ d ih =>
  intro n k t hd hn hk ht
  by_cases hlt : n < s.size
  ·obtain ⟨k, rfl⟩ : ∃ j, k = j + 1 := ⟨k - 1, by omega⟩
   have hcons := cdrop_cons s n hlt
   obtain ⟨c, hc⟩ : ∃ c, s[n] = c := ⟨_, rfl⟩
   rw [hc] at hcons
   unfold R2_decoded.l0
   rw [if_pos (by omega), if_pos (by omega), bt_get' s n hlt, hc]
   by_cases h38 : c = 38
   ·subst h38
    rw [if_pos (by decide), R1_Entity.f, if_pos (by omega), Option.bind_some, refEnt_eq]
    have hent : entP s.data.toList n = entL (38 :: s.data.toList.drop (n + 1)) := by
     unfold entP; rw [if_pos ⟨by omega, by omega⟩, show ((n : Nat) : Int).toNat = n from by omega, hcons]
    have hok := entL_ok (38 :: s.data.toList.drop (n + 1))
    have hdec := dec_amp (s.data.toList.drop (n + 1))
    have hlen : (38 :: s.data.toList.drop (n + 1)).length = s.size - n := by rw [← hcons, List.length_drop, hsz]
    rw [hlen] at hok
    rw [hent]
    obtain ⟨e, he⟩ : ∃ e, entL (38 :: s.data.toList.drop (n + 1)) = e := ⟨_, rfl⟩
    rw [he] at hok hdec ⊢
    obtain ⟨e1, e2⟩ := e
    simp only at hok hdec ⊢
    by_cases hz : e2 = 0
    ·rw [if_pos hz] at hdec
     rw [if_pos hz, hcons]
     unfold decR
     rw [hdec]
    ·rw [if_neg hz] at hdec
     have hes := mk_size e1
     rw [if_neg hz, if_pos (by omega), cwr _ (by omega) (by omega)]
     obtain ⟨m, hm⟩ : ∃ m : Nat, e2 = (m : Int) := ⟨e2.toNat, by omega⟩
     subst hm
     rw [show ((n : Nat) : Int) + (m : Int) = ((n + m : Nat) : Int) from by omega, ih (n + m) k _ (by omega) (by omega) (by omega) (by rw [ByteArray.size_append]; omega)]
     rw [← hcons, show ((m : Nat) : Int).toNat = m from by omega, List.drop_drop] at hdec
     rw [hcons] at hdec ⊢
     rw [decR_map t e1 _ _ hdec]
   ·have hne : ¬ ((c.toNat : Int) = 38) := fun e => h38 (UInt8.toNat_inj.1 (by show c.toNat = 38; omega))
    have hx : (s.extract n (n + 1)).data.toList = [c] := by
     rw [Lib.extract_data, hcons]; simp
    have hxs : (s.extract n (n + 1)).size = 1 := by rw [Lib.size_eq, hx]; rfl
    have hxe : s.extract n (n + 1) = ⟨[c].toArray⟩ := by apply ByteArray.ext; apply Array.ext'; rw [hx]
    rw [if_neg hne, cwr _ (by omega) (by omega), if_pos (by omega), if_pos (by omega), show ((n : Nat) : Int).toNat = n from by omega, show (((n : Nat) : Int) + 1).toNat = n + 1 from by omega, hxs, if_pos (by omega), show ((n : Nat) : Int) + 1 = ((n + 1 : Nat) : Int) from by omega,
     ih (n + 1) k _ (by omega) (by omega) (by omega) (by rw [ByteArray.size_append, hxs]; omega), hxe, hcons]
    rw [decR_map t [c] (c :: s.data.toList.drop (n + 1)) (s.data.toList.drop (n + 1)) (dec_cons c _ h38)]
  ·have : n = s.size := by omega
   subst this
   exact hend k t (by omega)
theorem decoded_f (s : ByteArray) (hs : s.size ≤ 4294967000) (k : Nat) (hk : s.size + 1 ≤ k) : R2_decoded.f k s = some (decR ⟨#[]⟩ s.data.toList) := by
 have := decoded_l0 s hs s.size 0 k ⟨#[]⟩ (by omega) (by omega) hk (by decide)
 exact this
theorem cut_find (l t : List UInt8) (i : Nat) : (Lib.cut (l.drop i) t).2.2 = decide (0 ≤ findN l t i) ∧ (0 ≤ findN l t i → findN l t i = i + ((Lib.cut (l.drop i) t).1.length : Int) ∧ (Lib.cut (l.drop i) t).1 = (l.drop i).take (findN l t i - i).toNat) := by
 unfold findN Lib.cut
 have hle := Lib.index_le (l.drop i) t
 by_cases h : 0 ≤ Lib.index (l.drop i) t
 ·rw [if_pos h, if_neg (by omega)]
  refine ⟨by rw [decide_eq_true (by omega)], fun _ => ⟨?_, ?_⟩⟩
  ·show _ = (i : Int) + (((l.drop i).take _).length : Int)
   rw [List.length_take]; omega
  ·show (l.drop i).take _ = (l.drop i).take _
   congr 1; omega
 ·rw [if_neg h, if_pos (by omega)]
  exact ⟨by rw [decide_eq_false (by omega)], fun h => by omega⟩
def AttrSame (r : Int × Int × Int × ByteArray × ByteArray × Bool) (p : Option (List Tok × Int)) : Prop := match p with
 | some (new, a') => new = [⟨r.1, r.2.1, r.2.2.1, r.2.2.2.1, r.2.2.2.2.1⟩] ∧ r.2.2.2.2.2 = true ∧ a' = r.2.2.1
 | none => r.2.2.2.2.2 = false
theorem skip_at (s : ByteArray) (a : Int) (hs : s.size ≤ 65536) (k : Nat) (hk : 200000 ≤ k) : R1_Skip.f k s a = some (skipP s.data.toList a) := by
 obtain ⟨j, rfl⟩ : ∃ j, k = 2 * s.size + 2 + j := ⟨k - (2 * s.size + 2), by omega⟩
 exact ref_skip_f s a (by omega) j
theorem name_at (s : ByteArray) (a : Int) (hs : s.size ≤ 65536) (k : Nat) (hk : 200000 ≤ k) : R1_NameEnd.f k s a = some (nameEndP s.data.toList a) := by
 obtain ⟨j, rfl⟩ : ∃ j, k = 2 * s.size + 2 + j := ⟨k - (2 * s.size + 2), by omega⟩
 exact ref_name_f s a (by omega) j
def PieceSame (r : List Tok × Bool) (p : Option (List Tok × Int)) : Prop := match p with
 | some (new, a') => r = (new, true) ∧ ∃ t, new.getLast? = some t ∧ t.f2 = a'
 | none => r.2 = false
theorem rd_last (l : List Tok) (t : Tok) (h : (l ++ [t]).length ≤ 4294967296) : rd_T51 (l ++ [t]) (wrap64 (((l ++ [t]).length : Int) - 1)) = t := by
 rw [List.length_append, List.length_singleton] at h ⊢
 rw [cwr _ (by omega) (by omega)]
 unfold rd_T51
 rw [show (((l.length + 1 : Nat) : Int) - 1).toNat = l.length from by omega]
 simp
theorem part_eq (s : ByteArray) (i j : Int) (h0 : 0 ≤ i) (l : List UInt8) (h : l = (s.data.toList.drop i.toNat).take (j - i).toNat) (hij : i ≤ j) : s.extract i.toNat j.toNat = ⟨l.toArray⟩ := by
 apply ByteArray.ext; apply Array.ext'
 rw [Lib.extract_data, h, show j.toNat - i.toNat = (j - i).toNat from by omega]
end Go.Proofs.YtlhhhlimjajnlaaGreat.P12
end
section
set_option linter.unusedVariables false
set_option linter.unusedSimpArgs false
namespace Go.Proofs.YtlhhhlimjajnlaaGreat.P12
open Go Go.RowKit Go.Proofs.YtlhhhlimjajnlaaGreat Go.Proofs.YtlhhhlimjajnlaaGreat.Q Go.Proofs.YtlhhhlimjajnlaaGreatW.PrintWords Go.Proofs.YtlhhhlimjajnlaaGreatW.PrintLast Go.Proofs.YtlhhhlimjajnlaaGreatW.PrintMore Go.Proofs.YtlhhhlimjajnlaaGreat.X Go.Proofs.YtlhhhlimjajnlaaGreat.P11
attribute [local go_sem] max2_int min2_int max_two min_two   
abbrev SkipC (s : ByteArray) (a r : Int) : Prop := ∀ w, Calls Tryz.prog 67 #[.string s, .int .i64 a] w fun e w' => e = .returned (.int .i64 r) ∧ Drawn0 w w'
abbrev NameC (s : ByteArray) (a r : Int) : Prop := ∀ w, Calls Tryz.prog 53 #[.string s, .int .i64 a] w fun e w' => e = .returned (.int .i64 r) ∧ Drawn0 w w'
abbrev BegC (s : ByteArray) (a : Int) (t : ByteArray) (r : Bool) : Prop := ∀ w, Calls Tryz.prog 93 #[.string s, .int .i64 a, .string t] w fun e w' => e = .returned (.bool r) ∧ Drawn0 w w'
abbrev FindC (s : ByteArray) (a : Int) (t : ByteArray) (r : Int) : Prop := ∀ w, Calls Tryz.prog 94 #[.string s, .int .i64 a, .string t] w fun e w' => e = .returned (.int .i64 r) ∧ Drawn0 w w'
abbrev DecC (s v : ByteArray) (b : Bool) : Prop := ∀ w, Calls Tryz.prog 96 #[.string s] w fun e w' => e = .returned (.tuple #[.string v, .bool b]) ∧ Below w.heap.size w w'
abbrev AR := Int × Int × Int × ByteArray × ByteArray × Bool
def a0 : AR := (0, 0, 0, ⟨#[]⟩, ⟨#[]⟩, false)
def Ret (r : AR) (e : Ending) : Prop := e = .returned (.tuple #[.agg #[.int .i64 r.1, .int .i64 r.2.1, .int .i64 r.2.2.1, .string r.2.2.2.1, .string r.2.2.2.2.1], .bool r.2.2.2.2.2])
def C4 (s : ByteArray) (F E O : Int) (R : AR) : Prop := ((0 : Int) ≤ O) = True ∧ (O ≤ O + 1) = True ∧ (O + 1 ≤ (s.size : Int)) = True ∧ IntKind.i64.wrap (O + 1) = O + 1 ∧ ∃ T, FindC s (O + 1) (s.extract O.toNat (O + 1).toNat) T ∧ ((T < 0) = True ∧ R = a0 ∨ (T < 0) = False ∧ ((0 : Int) ≤ O + 1) = True ∧ (O + 1 ≤ T) = True ∧ (T ≤ (s.size : Int)) = True ∧ ∃ L, FindC (s.extract (O + 1).toNat T.toNat) 0 ⟨#[60]⟩ L ∧ (((0 : Int) ≤ L) = True ∧ R = a0 ∨ ((0 : Int) ≤ L) = False ∧ ∃ v b, DecC (s.extract (O + 1).toNat T.toNat) v b ∧ IntKind.i64.wrap (T + 1) = T + 1 ∧ ((0 : Int) ≤ F) = True ∧ (F ≤ E) = True ∧ (E ≤ (s.size : Int)) = True ∧ R = (2, F, T + 1, s.extract F.toNat E.toNat, v, b)))
def C3 (s : ByteArray) (F E Q : Int) (R : AR) : Prop := IntKind.i64.wrap (Q + 1) = Q + 1 ∧ ∃ O b2 b3, SkipC s (Q + 1) O ∧ BegC s O ⟨#[34]⟩ b2 ∧ BegC s O ⟨#[39]⟩ b3 ∧ (b2 = false ∧ b3 = false ∧ R = a0 ∨ (b2 = true ∨ b2 = false ∧ b3 = true) ∧ C4 s F E O R)
def C2 (s : ByteArray) (F E : Int) (R : AR) : Prop := ∃ Q b1, SkipC s E Q ∧ BegC s Q ⟨#[61]⟩ b1 ∧ (b1 = false ∧ R = a0 ∨ b1 = true ∧ C3 s F E Q R)
def C1 (s : ByteArray) (a : Int) (R : AR) : Prop := ∃ F E, SkipC s a F ∧ NameC s F E ∧ (((F == a) = true ∨ (F == a) = false ∧ (E == F) = true) ∧ R = a0 ∨ (F == a) = false ∧ (E == F) = false ∧ C2 s F E R)
set_option maxHeartbeats 8000000 in
set_option maxRecDepth 100000 in
theorem attr_go {s : ByteArray} {a : Int} {R : AR} (h : C1 s a R) (w : World) : Calls Tryz.prog 117 #[.string s, .int .i64 a] w fun e w' => Ret R e ∧ Below w.heap.size w w' := by
 obtain ⟨F, E, h1, h2, h⟩ := h
 have hbk := blk_new w (.cells #[.int .i64 0, .int .i64 0, .int .i64 0, .string ⟨#[]⟩, .string ⟨#[]⟩] 51)
 have hb := below_alloc (Below.refl w.heap.size w) (.cells #[.int .i64 0, .int .i64 0, .int .i64 0, .string ⟨#[]⟩, .string ⟨#[]⟩] 51)
 go_enter Tryz.func117, Tryz.ntmps117
 go_upto_region 1 with (fail)
 generalize w.alloc (.cells #[.int .i64 0, .int .i64 0, .int .i64 0, .string ⟨#[]⟩, .string ⟨#[]⟩] 51) = w1 at hbk hb ⊢
 have HBK := Lib.hid hbk
 have HB := Lib.hid hb
 have y0 := (blk_cell hbk 0).trans (show _ = some (Value.int .i64 0) from rfl)
 have f0 := blk_frozen hbk 0
 have y1 := (blk_cell hbk 1).trans (show _ = some (Value.int .i64 0) from rfl)
 have f1 := blk_frozen hbk 1
 have y2 := (blk_cell hbk 2).trans (show _ = some (Value.int .i64 0) from rfl)
 have f2 := blk_frozen hbk 2
 have y3 := (blk_cell hbk 3).trans (show _ = some (Value.string ⟨#[]⟩) from rfl)
 have f3 := blk_frozen hbk 3
 have y4 := (blk_cell hbk 4).trans (show _ = some (Value.string ⟨#[]⟩) from rfl)
 have f4 := blk_frozen hbk 4
 clear hbk hb
 rcases h with ⟨q1 | ⟨q1, q2⟩, rfl⟩ | ⟨q1, q2, Q, b1, h3, h4, ⟨rfl, rfl⟩ | ⟨rfl, q3, O, b2, b3, h5, h6, h7, ⟨rfl, rfl, rfl⟩ | ⟨hq, q4, q5, q6, q7, T, h8, ⟨q8, rfl⟩ | ⟨q8, q9, q10, q11, L, h9, ⟨q12, rfl⟩ | ⟨q12, v, b, h10, q13, q14, q15, q16, rfl⟩⟩⟩⟩⟩
 iterate 4
  ·go_wp2_with (first | (go_at_call 67; (with_reducible first | refine (h1 _).mono ?_ | refine (h3 _).mono ?_ | refine (h5 _).mono ?_); rintro e w' ⟨rfl, n1, rfl⟩) | (go_at_call 53; refine (h2 _).mono ?_; rintro e w' ⟨rfl, n2, rfl⟩) | (go_at_call 93; (with_reducible first | refine (h4 _).mono ?_ | refine (h6 _).mono ?_ | refine (h7 _).mono ?_); rintro e w' ⟨rfl, n3, rfl⟩))
   refine bodyPost_ret (results_ct rfl _ _ w.heap.size 51 #[.int .i64 0, .int .i64 0, .int .i64 0, .string ⟨#[]⟩, .string ⟨#[]⟩] (0, 0) _ rfl (blk_set (blk_set (blk_set (blk_set (blk_set (blk_drewN HBK.out _) 0 _) 1 _) 2 _) 3 _) 4 _) Tryz.underlying51 rfl (by kernel_rfl)) rfl ?_
   exact ⟨rfl, (((((pw_below_drewN HB.out _).setCell (Nat.le_refl _) _).setCell (Nat.le_refl _) _).setCell (Nat.le_refl _) _).setCell (Nat.le_refl _) _).setCell (Nat.le_refl _) _⟩
 all_goals
  rcases hq with rfl | ⟨rfl, rfl⟩
 iterate 4
  ·go_wp2_with (first | (go_at_call 67; (with_reducible first | refine (h1 _).mono ?_ | refine (h3 _).mono ?_ | refine (h5 _).mono ?_); rintro e w' ⟨rfl, n1, rfl⟩) | (go_at_call 53; refine (h2 _).mono ?_; rintro e w' ⟨rfl, n2, rfl⟩) | (go_at_call 93; (with_reducible first | refine (h4 _).mono ?_ | refine (h6 _).mono ?_ | refine (h7 _).mono ?_); rintro e w' ⟨rfl, n3, rfl⟩) | (go_at_call 94; (with_reducible first | refine (h8 _).mono ?_ | refine (h9 _).mono ?_); rintro e w' ⟨rfl, n4, rfl⟩) | (go_at_call 96; refine (h10 _).mono ?_; rintro e w9 ⟨rfl, hb9⟩; have hbk := blk_below (blk_drewN HBK.out _) hb9; have y0 := (blk_cell hbk 0).trans (show _ = some (Value.int .i64 0) from rfl); have f0 := blk_frozen hbk 0; have y1 := (blk_cell hbk 1).trans (show _ = some (Value.int .i64 0) from rfl); have f1 := blk_frozen hbk 1; have y2 := (blk_cell hbk 2).trans (show _ = some (Value.int .i64 0) from rfl); have f2 := blk_frozen hbk 2; have y3 := (blk_cell hbk 3).trans (show _ = some (Value.string ⟨#[]⟩) from rfl); have f3 := blk_frozen hbk 3; have y4 := (blk_cell hbk 4).trans (show _ = some (Value.string ⟨#[]⟩) from rfl); have f4 := blk_frozen hbk 4; have HBK9 := Lib.hid hbk; have HB9 := Lib.hid (below_step (pw_below_drewN HB.out _) hb9); clear hbk hb9))
   refine bodyPost_ret (results_ct rfl _ _ w.heap.size 51 #[.int .i64 0, .int .i64 0, .int .i64 0, .string ⟨#[]⟩, .string ⟨#[]⟩] (0, 0) _ rfl (blk_set (blk_set (blk_set (blk_set (blk_set (blk_drewN HBK.out _) 0 _) 1 _) 2 _) 3 _) 4 _) Tryz.underlying51 rfl (by kernel_rfl)) rfl ?_
   exact ⟨rfl, (((((pw_below_drewN HB.out _).setCell (Nat.le_refl _) _).setCell (Nat.le_refl _) _).setCell (Nat.le_refl _) _).setCell (Nat.le_refl _) _).setCell (Nat.le_refl _) _⟩
 all_goals
  go_wp2_with (first | (go_at_call 67; (with_reducible first | refine (h1 _).mono ?_ | refine (h3 _).mono ?_ | refine (h5 _).mono ?_); rintro e w' ⟨rfl, n1, rfl⟩) | (go_at_call 53; refine (h2 _).mono ?_; rintro e w' ⟨rfl, n2, rfl⟩) | (go_at_call 93; (with_reducible first | refine (h4 _).mono ?_ | refine (h6 _).mono ?_ | refine (h7 _).mono ?_); rintro e w' ⟨rfl, n3, rfl⟩) | (go_at_call 94; (with_reducible first | refine (h8 _).mono ?_ | refine (h9 _).mono ?_); rintro e w' ⟨rfl, n4, rfl⟩) | (go_at_call 96; refine (h10 _).mono ?_; rintro e w9 ⟨rfl, hb9⟩; have hbk := blk_below (blk_drewN HBK.out _) hb9; have y0 := (blk_cell hbk 0).trans (show _ = some (Value.int .i64 0) from rfl); have f0 := blk_frozen hbk 0; have y1 := (blk_cell hbk 1).trans (show _ = some (Value.int .i64 0) from rfl); have f1 := blk_frozen hbk 1; have y2 := (blk_cell hbk 2).trans (show _ = some (Value.int .i64 0) from rfl); have f2 := blk_frozen hbk 2; have y3 := (blk_cell hbk 3).trans (show _ = some (Value.string ⟨#[]⟩) from rfl); have f3 := blk_frozen hbk 3; have y4 := (blk_cell hbk 4).trans (show _ = some (Value.string ⟨#[]⟩) from rfl); have f4 := blk_frozen hbk 4; have HBK9 := Lib.hid hbk; have HB9 := Lib.hid (below_step (pw_below_drewN HB.out _) hb9); clear hbk hb9))
  refine bodyPost_ret (results_ct rfl _ _ w.heap.size 51 #[.int .i64 2, .int .i64 F, .int .i64 (T + 1), .string (s.extract F.toNat E.toNat), .string v] (0, 0) _ rfl (blk_set (blk_set (blk_set (blk_set (blk_set HBK9.out 0 _) 1 _) 2 _) 3 _) 4 _) Tryz.underlying51 rfl (by kernel_rfl)) rfl ?_
  exact ⟨rfl, (((((HB9.out).setCell (Nat.le_refl _) _).setCell (Nat.le_refl _) _).setCell (Nat.le_refl _) _).setCell (Nat.le_refl _) _).setCell (Nat.le_refl _) _⟩
end Go.Proofs.YtlhhhlimjajnlaaGreat.P12
end
section
set_option linter.unusedVariables false
set_option linter.unusedSimpArgs false
namespace Go.Proofs.YtlhhhlimjajnlaaGreat.P12
open Go Go.RowKit Go.Proofs.YtlhhhlimjajnlaaGreat Go.Proofs.YtlhhhlimjajnlaaGreat.Q Go.Proofs.YtlhhhlimjajnlaaGreatW.PrintWords Go.Proofs.YtlhhhlimjajnlaaGreat.X Go.Proofs.YtlhhhlimjajnlaaGreat.P11
theorem skipC {s : ByteArray} (hs : s.size ≤ 65536) {a r : Int} (h : skipP s.data.toList a = r) : SkipC s a r := fun w => R1_Skip.calls 200000 s a r w (h ▸ skip_at s a hs _ (Nat.le_refl _))
theorem nameC {s : ByteArray} (hs : s.size ≤ 65536) {a r : Int} (h : nameEndP s.data.toList a = r) : NameC s a r := fun w => R1_NameEnd.calls 200000 s a r w (h ▸ name_at s a hs _ (Nat.le_refl _))
theorem begC {s t : ByteArray} {i : Int} (h0 : 0 ≤ i) (hi : i ≤ 4294967296) (ht : 0 < t.size) (hts : t.size ≤ 4294967296) {b : Bool} (h : standsB s i t = b) : BegC s i t b := fun w => R2_begins.calls s i t b w (h ▸ begins_f s t i h0 hi ht hts)
theorem findC {s t : ByteArray} {i : Int} (hs : s.size ≤ 65536) (h0 : 0 ≤ i) (hi : i ≤ (s.size : Int) + 1) (ht : 0 < t.size) (hts : t.size ≤ 4294967296) {r : Int} (h : findN s.data.toList t.data.toList i.toNat = r) : FindC s i t r := fun w => R2_find.calls 200000 s i t r w (h ▸ find_f s t i h0 hi (by omega) ht hts _ (by omega))
theorem decC {s : ByteArray} (hs : s.size ≤ 65536) {v : ByteArray} {b : Bool} (h : decR ⟨#[]⟩ s.data.toList = (v, b)) : DecC s v b := fun w => R2_decoded.calls 200000 s v b w (h ▸ decoded_f s (by omega) _ (by omega))
theorem wr64 {i : Int} (h0 : -4294967296 ≤ i) (h1 : i ≤ 4294967296) : IntKind.i64.wrap i = i := by rw [IntKind.wrap_i64]; omega
theorem attr_C (s : ByteArray) (a : Int) (hs : s.size ≤ 65536) (h0 : 0 ≤ a) (h1 : a ≤ (s.size : Int)) : ∃ R, C1 s a R ∧ AttrSame R (attrP s a) := by
 have hsz : s.data.toList.length = s.size := (Lib.size_eq s).symm
 unfold attrP
 obtain ⟨F, hF⟩ : ∃ F, skipP s.data.toList a = F := ⟨_, rfl⟩
 obtain ⟨E, hE⟩ : ∃ E, nameEndP s.data.toList F = E := ⟨_, rfl⟩
 obtain ⟨Q, hQ⟩ : ∃ Q, skipP s.data.toList E = Q := ⟨_, rfl⟩
 obtain ⟨O, hO⟩ : ∃ O, skipP s.data.toList (Q + 1) = O := ⟨_, rfl⟩
 have hF1 := skipP_in s.data.toList a (by omega) (by omega)
 rw [hF] at hF1
 have hE1 := nameEndP_in s.data.toList F (by omega) (by omega)
 rw [hE] at hE1
 have hQ1 := skipP_in s.data.toList E (by omega) (by omega)
 rw [hQ] at hQ1
 simp only [hF, hE, hQ, hO]
 by_cases c1 : F = a
 ·rw [if_pos c1]
  exact ⟨a0, ⟨F, E, skipC hs hF, nameC hs hE, .inl ⟨.inl (by simpa using c1), rfl⟩⟩, rfl⟩
 rw [if_neg c1]
 have d1 : (F == a) = false := beq_eq_false_iff_ne.2 c1
 by_cases c2 : E = F
 ·rw [if_pos c2]
  exact ⟨a0, ⟨F, E, skipC hs hF, nameC hs hE, .inl ⟨.inr ⟨d1, by simpa using c2⟩, rfl⟩⟩, rfl⟩
 have d2 : (E == F) = false := beq_eq_false_iff_ne.2 c2
 rw [if_neg c2]
 suffices h : ∃ R, C2 s F E R ∧ AttrSame R _ from h.elim fun R ⟨h, h'⟩ => ⟨R, ⟨F, E, skipC hs hF, nameC hs hE, .inr ⟨d1, d2, h⟩⟩, h'⟩
 by_cases c3 : standsB s Q ⟨#[61]⟩ = false
 ·rw [if_pos c3]
  exact ⟨a0, ⟨Q, _, skipC hs hQ, begC (by omega) (by omega) (by decide) (by decide) rfl, .inl ⟨c3, rfl⟩⟩, rfl⟩
 have c3' : standsB s Q ⟨#[61]⟩ = true := by simpa using c3
 have hr1 := stands_room s Q 61 (by omega) c3'
 have hO1 := skipP_in s.data.toList (Q + 1) (by omega) (by omega)
 rw [hO] at hO1
 rw [if_neg c3]
 suffices h : ∃ R, C3 s F E Q R ∧ AttrSame R _ from h.elim fun R ⟨h, h'⟩ => ⟨R, ⟨Q, _, skipC hs hQ, begC (by omega) (by omega) (by decide) (by decide) rfl, .inr ⟨c3', h⟩⟩, h'⟩
 by_cases c4 : standsB s O ⟨#[34]⟩ = false ∧ standsB s O ⟨#[39]⟩ = false
 ·rw [if_pos c4]
  exact ⟨a0, ⟨wr64 (by omega) (by omega), O, _, _, skipC hs hO, begC (by omega) (by omega) (by decide) (by decide) rfl, begC (by omega) (by omega) (by decide) (by decide) rfl, .inl ⟨c4.1, c4.2, rfl⟩⟩, rfl⟩
 have hb : standsB s O ⟨#[34]⟩ = true ∨ standsB s O ⟨#[34]⟩ = false ∧ standsB s O ⟨#[39]⟩ = true := by
  cases e : standsB s O ⟨#[34]⟩
  ·right; refine ⟨rfl, ?_⟩
   cases e' : standsB s O ⟨#[39]⟩
   ·exact absurd ⟨e, e'⟩ c4
   ·rfl
  ·exact .inl rfl
 have hO2 : O < (s.size : Int) := hb.elim (fun c => stands_room s O 34 (by omega) c) (fun c => stands_room s O 39 (by omega) c.2)
 rw [if_neg c4]
 suffices h : ∃ R, C4 s F E O R ∧ AttrSame R _ from h.elim fun R ⟨h, h'⟩ => ⟨R, ⟨wr64 (by omega) (by omega), O, _, _, skipC hs hO, begC (by omega) (by omega) (by decide) (by decide) rfl, begC (by omega) (by omega) (by decide) (by decide) rfl, .inr ⟨hb, h⟩⟩, h'⟩
 obtain ⟨Z, hZ⟩ : ∃ Z, s.extract O.toNat (O + 1).toNat = Z := ⟨_, rfl⟩
 have hZ' : partB s O (O + 1) = Z := hZ
 have hZs : Z.size = 1 := by rw [Lib.size_eq, ← hZ, Lib.extract_data, List.length_take, List.length_drop]; omega
 unfold C4
 rw [hZ, hZ']
 have hcf := cut_find s.data.toList Z.data.toList (O + 1).toNat
 obtain ⟨T, hT⟩ : ∃ T, findN s.data.toList Z.data.toList (O + 1).toNat = T := ⟨_, rfl⟩
 obtain ⟨c, hc⟩ : ∃ c, Lib.cut (s.data.toList.drop (O + 1).toNat) Z.data.toList = c := ⟨_, rfl⟩
 rw [hT, hc] at hcf
 rw [hc]
 have e0 : ((0 : Int) ≤ O) = True := eq_true (by omega)
 have e1 : (O ≤ O + 1) = True := eq_true (by omega)
 have e2 : (O + 1 ≤ (s.size : Int)) = True := eq_true (by omega)
 have hfT : FindC s (O + 1) Z T := findC hs (by omega) (by omega) (by omega) (by omega) hT
 by_cases c5 : T < 0
 ·have e5 : c.2.2 = false := by rw [hcf.1, decide_eq_false (by omega)]
  rw [if_pos e5]
  exact ⟨a0, ⟨e0, e1, e2, wr64 (by omega) (by omega), T, hfT, .inl ⟨eq_true c5, rfl⟩⟩, rfl⟩
 obtain ⟨hT1, hc1⟩ := hcf.2 (by omega)
 have hcl : (c.1.length : Int) ≤ (s.size : Int) - (O + 1) := by
  rw [hc1, List.length_take, List.length_drop]; omega
 have hraw : (s.extract (O + 1).toNat T.toNat).data.toList = c.1 := by
  rw [Lib.extract_data, hc1]; congr 1; omega
 obtain ⟨R, hR⟩ : ∃ R, s.extract (O + 1).toNat T.toNat = R := ⟨_, rfl⟩
 have hraw0 := hraw
 rw [hR] at hraw
 have hRs : R.size ≤ s.size := by rw [Lib.size_eq, hraw]; omega
 have e5 : ¬ c.2.2 = false := by rw [hcf.1, decide_eq_true (by omega)]; decide
 rw [if_neg e5]
 have hfi : (0 ≤ findN R.data.toList (⟨#[60]⟩ : ByteArray).data.toList (0 : Int).toNat) ↔ 0 ≤ Lib.indexByte c.1 60 := by
  unfold findN
  have : Lib.index (R.data.toList.drop (0 : Int).toNat) (⟨#[60]⟩ : ByteArray).data.toList = Lib.indexByte c.1 60 := by
   show Lib.index (R.data.toList.drop 0) [60] = _
   rw [List.drop_zero, Lib.index_one, hraw]
  rw [this]
  split
  ·omega
  ·constructor <;> intro _ <;> omega
 have hpre : ∀ L, findN R.data.toList (⟨#[60]⟩ : ByteArray).data.toList (0 : Int).toNat = L → FindC (s.extract (O + 1).toNat T.toNat) 0 ⟨#[60]⟩ L := fun L hL => by rw [hR]; exact findC (by omega) (by omega) (by omega) (by decide) (by decide) hL
 by_cases c6 : 0 ≤ Lib.indexByte c.1 60
 ·rw [if_pos c6]
  exact ⟨a0, ⟨e0, e1, e2, wr64 (by omega) (by omega), T, hfT, .inr ⟨eq_false c5, eq_true (by omega), eq_true (by omega), eq_true (by omega), _, hpre _ rfl, .inl ⟨eq_true (hfi.2 c6), rfl⟩⟩⟩, rfl⟩
 rw [if_neg c6]
 refine ⟨(2, F, T + 1, s.extract F.toNat E.toNat, (decR ⟨#[]⟩ R.data.toList).1, (decR ⟨#[]⟩ R.data.toList).2), ⟨e0, e1, e2, wr64 (by omega) (by omega), T, hfT, .inr ⟨eq_false c5, eq_true (by omega), eq_true (by omega), eq_true (by omega), _, hpre _ rfl, .inr ⟨eq_false (fun h => c6 (hfi.1 h)), _, _, by rw [hR]; exact decC (by omega) rfl, wr64 (by omega) (by omega), eq_true (by omega), eq_true (by omega), eq_true (by omega), rfl⟩⟩⟩, ?_⟩
 unfold decR
 rw [hraw]
 cases hd : dec c.1 with
 | none => rfl
 | some v =>
  have hv : (⟨#[]⟩ : ByteArray) ++ (⟨v.toArray⟩ : ByteArray) = ⟨v.toArray⟩ := by
   apply ByteArray.ext; apply Array.ext'; simp [ByteArray.data_append]
  refine ⟨?_, rfl, ?_⟩
  ·show [_] = [(⟨2, F, T + 1, partB s F E, (⟨#[]⟩ : ByteArray) ++ (⟨v.toArray⟩ : ByteArray)⟩ : Tok)]
   rw [hv, show T + 1 = O + (c.1.length : Int) + 2 from by omega]
  ·show _ = T + 1
   omega
theorem attr_c (s : ByteArray) (a : Int) (hs : s.size ≤ 65536) (h0 : 0 ≤ a) (h1 : a ≤ (s.size : Int)) : ∃ R, AttrSame R (attrP s a) ∧ ∀ w, Calls Tryz.prog 117 #[.string s, .int .i64 a] w fun e w' => Ret R e ∧ Below w.heap.size w w' := by
 obtain ⟨R, h, h'⟩ := attr_C s a hs h0 h1
 exact ⟨R, h', fun w => attr_go h w⟩
end Go.Proofs.YtlhhhlimjajnlaaGreat.P12
end
section
set_option linter.unusedVariables false
set_option linter.unusedSimpArgs false
namespace Go.Proofs.YtlhhhlimjajnlaaGreat.P12
open Go Go.RowKit Go.Proofs.YtlhhhlimjajnlaaGreat Go.Proofs.YtlhhhlimjajnlaaGreat.Q Go.Proofs.YtlhhhlimjajnlaaGreatW.PrintWords Go.Proofs.YtlhhhlimjajnlaaGreatW.PrintLast Go.Proofs.YtlhhhlimjajnlaaGreatW.PrintMore Go.Proofs.YtlhhhlimjajnlaaGreat.X Go.Proofs.YtlhhhlimjajnlaaGreat.P11
attribute [local go_sem] max2_int min2_int max_two min_two   
theorem lit_R {base : Nat} {W : World} (hb : base ≤ W.heap.size) (x : Tok) : Kd.R k51 51 (W.alloc (.cells #[.int .i64 x.f0, .int .i64 x.f1, .int .i64 x.f2, .string x.f3, .string x.f4] 51)) base (fun _ => True) (.slice (some ⟨W.heap.size, 0, none⟩) 1 1) [x] := by
 refine ⟨fun k hk => trivial, [.int .i64 x.f0, .int .i64 x.f1, .int .i64 x.f2, .string x.f3, .string x.f4], ?_, ?_⟩
 ·have h2 := World.ownsRow_lit (base := base) (e := 51) (size := 5) W #[.int .i64 x.f0, .int .i64 x.f1, .int .i64 x.f2, .string x.f3, .string x.f4] 1 hb (by decide) rfl
  exact h2
 ·exact Reps.c5 (show Kd.M k51 _ _ _ x [.int .i64 x.f0, .int .i64 x.f1, .int .i64 x.f2, .string x.f3, .string x.f4] from k51_mkM _ _ _ x) (Reps.none _ _)
section
variable {ops : Array Oper} {rest : List Oper} {o : Oper} {a : Act} {Q : Exit → Act → World → Prop} {w0 W W2 : World} {v : Value}
theorem app_t {xs : List Tok} (x : Tok) (s y : Operand) (hgd : o.guard = none) (ho : o.op = .call { callee := .builtin .append, args := #[s, y], argTypes := #[43, 43] }) (hs : a.eval s = v)
 (hW : W2 = W.alloc (.cells #[.int .i64 x.f0, .int .i64 x.f1, .int .i64 x.f2, .string x.f3, .string x.f4] 51)) (HO : Kd.R k51 51 W w0.heap.size (fun _ => True) v xs) (HB : Below w0.heap.size w0 W) (hl : xs.length ≤ 1000000)
 (h : ∀ v1 w1, Kd.R k51 51 w1 w0.heap.size (fun _ => True) v1 (xs ++ [x]) → Below w0.heap.size w0 w1 → wpList Tryz.prog ops Q rest (a.put o.dst v1) w1) (hy : a.eval y = .slice (some ⟨W.heap.size, 0, none⟩) 1 1 := by first | rfl | exact congrArg (fun n => Value.slice (some ⟨n, 0, none⟩) 1 1) (by simp)) : wpList Tryz.prog ops Q (o :: rest) a W2 := by
 subst hW
 exact Kd.R_append k51 (w0 := w0) w0.heap.size hgd s y 43 51 (.agg #[.int .i64 0, .int .i64 0, .int .i64 0, .string ⟨#[]⟩, .string ⟨#[]⟩]) 56 ho Tryz.underlying43 info51 rfl (by decide) (by omega) v xs x [.int .i64 x.f0, .int .i64 x.f1, .int .i64 x.f2, .string x.f3, .string x.f4] (fun _ => True) (fun _ => False) hs hy (k51_mkM _ _ _ x) (fun _ hk => hk.elim) (fun _ _ => trivial) HO HB HB.size (by omega) fun v1 w1 h1 h2 h3 _ => h v1 w1 h1 h2
end
def lenV : Value → Nat
 | .slice _ n _ => n
 | _ => 0
def TP (p : Option (List Tok × Int)) (w : World) (e : Ending) (w' : World) : Prop := ∃ (r : List Tok × Bool) (v : Value), e = .returned (.tuple #[v, .bool r.2]) ∧ Kd.R k51 51 w' w.heap.size (fun _ => True) v r.1 ∧ PieceSame r p ∧ Below w.heap.size w w'
theorem TP.no {w w' : World} {p : Option (List Tok × Int)} (h : none = p) (hb : Below w.heap.size w w') : TP p w (.returned (.tuple #[.slice none 0 0, .bool false])) w' := by
 subst h
 exact ⟨([], false), _, rfl, Kd.R_nil _ _ _ _ _, rfl, hb⟩
theorem TP.yes {w w' : World} {v : Value} {p : Option (List Tok × Int)} {l : List Tok} {t : Tok} (h : some (l ++ [t], t.f2) = p) (hR : Kd.R k51 51 w' w.heap.size (fun _ => True) v (l ++ [t])) (hb : Below w.heap.size w w') : TP p w (.returned (.tuple #[v, .bool true])) w' := by
 subst h
 exact ⟨(l ++ [t], true), v, rfl, hR, ⟨rfl, t, List.getLast?_concat, rfl⟩, hb⟩
set_option maxHeartbeats 8000000 in
set_option maxRecDepth 100000 in
theorem tag_c (s : ByteArray) (a : Int) (hs : s.size ≤ 65536) (h0 : 0 ≤ a) (h1 : a + 1 ≤ (s.size : Int)) (w : World) : Calls Tryz.prog 95 #[.string s, .int .i64 a] w (TP (tagP s a) w) := by
 obtain ⟨P, hP⟩ : ∃ P, tagP s a = P := ⟨_, rfl⟩
 rw [hP]
 unfold tagP at hP
 obtain ⟨E, hE⟩ : ∃ E, nameEndP s.data.toList (a + 1) = E := ⟨_, rfl⟩
 have hsz : s.data.toList.length = s.size := (Lib.size_eq s).symm
 have hE1 := nameEndP_in s.data.toList (a + 1) (by omega) (by omega)
 rw [hE] at hE1
 simp only [hE] at hP
 have H1 := nameC hs hE
 have e1 : IntKind.i64.wrap (a + 1) = a + 1 := wr64 (by omega) (by omega)
 by_cases c1 : E = a + 1
 ·have q1 : (E == a + 1) = true := by simpa using c1
  rw [if_pos c1] at hP
  have HP := Lib.hid hP
  clear hP hE1 hE c1 hsz
  go_enter Tryz.func95, Tryz.ntmps95
  go_wp2_with (go_at_call 53; refine (H1 _).mono ?_; rintro e w' ⟨rfl, n2, rfl⟩)
  go_ret2
  exact TP.no HP.out (pw_below_drewN (Below.refl _ _) _)
 have q1 : (E == a + 1) = false := by simpa using c1
 rw [if_neg c1] at hP
 have p1 : ((0 : Int) ≤ a + 1) = True := eq_true (by omega)
 have p2 : (a + 1 ≤ E) = True := eq_true (by omega)
 have p3 : (E ≤ (s.size : Int)) = True := eq_true (by omega)
 have HP := Lib.hid (show 0 ≤ E ∧ E ≤ (s.size : Int) ∧ (1 : Int) ≤ E ∧ (s.size : Int) - E < (s.size + 1 : Nat) ∧ attrsF s (s.size + 1) E [⟨1, a, E, partB s (a + 1) E, ⟨#[]⟩⟩] = P from ⟨by omega, by omega, by omega, by omega, hP⟩)
 clear hP hE1 hE c1 hsz
 go_enter Tryz.func95, Tryz.ntmps95
 go_wp2_with (go_at_call 53; refine (H1 _).mono ?_; rintro e w' ⟨rfl, n2, rfl⟩)
 clear p1 p2 p3 q1 e1 H1
 go_loopw [7] (fun v7 wr => ∃ (l : List Tok) (t : Tok) (k : Nat), Hid (0 ≤ t.f2 ∧ t.f2 ≤ (s.size : Int) ∧ ((l ++ [t]).length : Int) ≤ t.f2 ∧ (s.size : Int) - t.f2 < k ∧ attrsF s k t.f2 (l ++ [t]) = P) ∧ Hid (Kd.R k51 51 wr w.heap.size (fun _ => True) v7 (l ++ [t])) ∧ Hid (Below w.heap.size w wr)) (fun v7 wr => s.size + 1 - lenV v7)
 case atStart => exact ⟨[], ⟨1, a, E, partB s (a + 1) E, ⟨#[]⟩⟩, s.size + 1, HP, Lib.hid (lit_R (pw_below_drewN (Below.refl w.heap.size w) n2).size _), Lib.hid (below_alloc (pw_below_drewN (Below.refl _ _) _) _)⟩
 case round =>
  clear HP
  obtain ⟨l, t, k, HX, HR, HB⟩ := hrel
  obtain ⟨A7, c7, rfl⟩ := Kd.R_slice HR.out
  obtain ⟨x0, x1, x2, x3, x4⟩ := HX.out
  obtain ⟨k, rfl⟩ : ∃ j, k = j + 1 := ⟨k - 1, by omega⟩
  have hlen : (l ++ [t]).length = l.length + 1 := by rw [List.length_append, List.length_singleton]
  obtain ⟨ad, hA, -, -, r2, -, -⟩ := at_T51 (Kd.R_reads' HR.out).2.2 (l.length : Int) (by omega) (by omega)
  subst hA
  have hrd := rd_last l t (by omega)
  have hcw : wrap64 (((l ++ [t]).length : Int) - 1) = (l.length : Int) := by rw [hlen, cwr _ (by omega) (by omega)]; omega
  rw [hcw] at hrd
  rw [hrd, Int.toNat_natCast] at r2
  obtain ⟨n, hn⟩ : ∃ n, (l ++ [t]).length = n := ⟨_, rfl⟩
  have e2 : IntKind.i64.wrap ((n : Int) - 1) = (l.length : Int) := by rw [wr64 (by omega) (by omega)]; omega
  obtain ⟨A, hAf⟩ : ∃ A, t.f2 = A := ⟨_, rfl⟩
  rw [hAf] at r2 x0 x1 x2 x3 x4
  obtain ⟨I, hI⟩ : ∃ I, skipP s.data.toList A = I := ⟨_, rfl⟩
  have hsz : s.data.toList.length = s.size := (Lib.size_eq s).symm
  have hI1 := skipP_in s.data.toList A x0 (by omega)
  rw [hI] at hI1
  have h1 := skipC hs hI
  obtain ⟨b1, hb1⟩ : ∃ b1, standsB s I ⟨#[62]⟩ = b1 := ⟨_, rfl⟩
  obtain ⟨b2, hb2⟩ : ∃ b2, standsB s I ⟨#[47, 62]⟩ = b2 := ⟨_, rfl⟩
  have h2 := begC (i := I) (by omega) (by omega) (by decide) (by decide) hb1
  have h3 := begC (i := I) (by omega) (by omega) (by decide) (by decide) hb2
  obtain ⟨⟨ax, ay, az, au, av, ab⟩, hsame, h4⟩ := attr_c s A hs x0 x1
  unfold attrsF at x4
  rw [hI, hb1, hb2] at x4
  have e3 : IntKind.i64.wrap (I + 1) = I + 1 := wr64 (by omega) (by omega)
  have e4 : IntKind.i64.wrap (I + 2) = I + 2 := wr64 (by omega) (by omega)
  have p1 : ((0 : Int) ≤ (l.length : Int)) = True := eq_true (by omega)
  have p2 : ((l.length : Int) < (n : Int)) = True := eq_true (by omega)
  have hcase : (b1 = true ∧ some (l ++ [t] ++ [(⟨3, I, I + 1, ⟨#[]⟩, ⟨#[]⟩⟩ : Tok)], I + 1) = P) ∨ (b1 = false ∧ b2 = true ∧ some (l ++ [t] ++ [(⟨4, I, I + 2, ⟨#[]⟩, ⟨#[]⟩⟩ : Tok)], I + 2) = P) ∨ (b1 = false ∧ b2 = false ∧ ab = false ∧ none = P) ∨ (b1 = false ∧ b2 = false ∧ ab = true ∧ Hid (0 ≤ az ∧ az ≤ (s.size : Int) ∧ ((l ++ [t] ++ [(⟨ax, ay, az, au, av⟩ : Tok)]).length : Int) ≤ az ∧ (s.size : Int) - az < k ∧ attrsF s k az (l ++ [t] ++ [⟨ax, ay, az, au, av⟩]) = P)) := by
   cases hb : b1
   ·rw [hb, if_neg (by decide)] at x4
    right
    cases hc : b2
    ·rw [hc, if_neg (by decide)] at x4
     right
     cases hA : attrP s A with
     | none => rw [hA] at x4 hsame; exact .inl ⟨rfl, rfl, hsame, x4⟩
     | some v =>
      obtain ⟨new, a'⟩ := v
      rw [hA] at x4 hsame
      obtain ⟨e5, e6, e7⟩ := hsame
      have hroom := attr_room s A x0 x1 new a' hA
      simp only at e5 e6 e7
      subst e5 e7
      exact .inr ⟨rfl, rfl, e6, Lib.hid ⟨by omega, hroom.2.1, by rw [List.length_append, hlen, List.length_singleton]; rw [hlen] at x2; omega, by omega, x4⟩⟩
    ·rw [hc, if_pos rfl] at x4
     exact .inl ⟨rfl, rfl, x4⟩
   ·rw [hb, if_pos rfl] at x4
    exact .inl ⟨rfl, x4⟩
  have HL := Lib.hid (show (l ++ [t]).length ≤ 1000000 by omega)
  have HS := Lib.hid (show n = l.length + 1 ∧ l.length + 1 ≤ s.size ∧ (l ++ [t]).length = n from ⟨by omega, by omega, hn⟩)
  obtain ⟨m, hm⟩ : ∃ m, l.length = m := ⟨_, rfl⟩
  rw [hn] at HR ⊢
  rw [hm] at r2 e2 p1 p2 HS
  clear hlen hm hn
  clear hI1 hI hb1 hb2 hsame x0 x1 x2 x3 x4 hAf hcw hrd hsz HX
  rcases hcase with ⟨rfl, hp⟩ | ⟨rfl, rfl, hp⟩ | ⟨rfl, rfl, rfl, hp⟩ | ⟨rfl, rfl, rfl, hp⟩
  ·have HP := Lib.hid hp
   clear hp h3 h4 e4
   go_wp2_with (first | (go_at_call 67; refine (h1 _).mono ?_; rintro e w' ⟨rfl, n1, rfl⟩) | (go_at_call 93; (with_reducible first | refine (h2 _).mono ?_ | refine (h3 _).mono ?_); rintro e w' ⟨rfl, n3, rfl⟩) | (at_builtin; refine app_t ⟨3, I, I + 1, ⟨#[]⟩, ⟨#[]⟩⟩ (.tmp 42) (.tmp 47) rfl rfl rfl rfl (Kd.R_drewN HR.out _) (pw_below_drewN HB.out _) HL.out ?_; intro v1 w2 ho hb; have HO := Lib.hid ho; have HB2 := Lib.hid hb; clear ho hb))
   go_ret2
   exact TP.yes HP.out HO.out HB2.out
  ·have HP := Lib.hid hp
   clear hp h4 e3
   go_wp2_with (first | (go_at_call 67; refine (h1 _).mono ?_; rintro e w' ⟨rfl, n1, rfl⟩) | (go_at_call 93; (with_reducible first | refine (h2 _).mono ?_ | refine (h3 _).mono ?_); rintro e w' ⟨rfl, n3, rfl⟩) | (at_builtin; refine app_t ⟨4, I, I + 2, ⟨#[]⟩, ⟨#[]⟩⟩ (.tmp 52) (.tmp 57) rfl rfl rfl rfl (Kd.R_drewN HR.out _) (pw_below_drewN HB.out _) HL.out ?_; intro v1 w2 ho hb; have HO := Lib.hid ho; have HB2 := Lib.hid hb; clear ho hb))
   go_ret2
   exact TP.yes HP.out HO.out HB2.out
  ·have HP := Lib.hid hp
   clear hp e3 e4
   go_wp2_with (first | (go_at_call 67; refine (h1 _).mono ?_; rintro e w' ⟨rfl, n1, rfl⟩) | (go_at_call 93; (with_reducible first | refine (h2 _).mono ?_ | refine (h3 _).mono ?_); rintro e w' ⟨rfl, n3, rfl⟩) | (go_at_call 117; refine (h4 _).mono ?_; rintro e w9 ⟨rfl, hb9⟩; have HB9 := Lib.hid (below_step (pw_below_drewN HB.out _) hb9); clear hb9))
   go_ret2
   exact TP.no HP.out (below_alloc HB9.out _)
  ·clear e3 e4
   go_wp2_with (first | (go_at_call 67; refine (h1 _).mono ?_; rintro e w' ⟨rfl, n1, rfl⟩) | (go_at_call 93; (with_reducible first | refine (h2 _).mono ?_ | refine (h3 _).mono ?_); rintro e w' ⟨rfl, n3, rfl⟩) | (go_at_call 117; refine (h4 _).mono ?_; rintro e w9 ⟨rfl, hb9⟩; have HR9 := Lib.hid (Kd.R_alloc (Kd.R_below (Kd.R_drewN HR.out _) hb9) (.cells #[.int .i64 ax, .int .i64 ay, .int .i64 az, .string au, .string av] 51)); have HB9 := Lib.hid (below_alloc (below_step (pw_below_drewN HB.out _) hb9) (.cells #[.int .i64 ax, .int .i64 ay, .int .i64 az, .string au, .string av] 51)); clear hb9) | (at_builtin; refine app_t ⟨ax, ay, az, au, av⟩ (.tmp 67) (.tmp 69) rfl rfl rfl rfl HR9.out HB9.out HL.out ?_; intro v1 w2 ho hb; have HO := Lib.hid ho; have HB2 := Lib.hid hb; clear ho hb))
   obtain ⟨e5, e6, e7⟩ := HS.out
   obtain ⟨A8, c8, rfl⟩ := Kd.R_slice HO.out
   go_roundw
   case rel => exact ⟨l ++ [t], ⟨ax, ay, az, au, av⟩, k, hp, HO, HB2⟩
   case measure => simp [lenV] at *; omega
end Go.Proofs.YtlhhhlimjajnlaaGreat.P12
end
section
set_option linter.unusedVariables false
set_option linter.unusedSimpArgs false
namespace Go.Proofs.YtlhhhlimjajnlaaGreat.P12
open Go Go.RowKit Go.Proofs.YtlhhhlimjajnlaaGreat Go.Proofs.YtlhhhlimjajnlaaGreat.Q Go.Proofs.YtlhhhlimjajnlaaGreatW.PrintWords Go.Proofs.YtlhhhlimjajnlaaGreatW.PrintLast Go.Proofs.YtlhhhlimjajnlaaGreatW.PrintMore Go.Proofs.YtlhhhlimjajnlaaGreat.X Go.Proofs.YtlhhhlimjajnlaaGreat.P11
attribute [local go_sem] max2_int min2_int max_two min_two   
abbrev PO := Option (List Tok × Int)
abbrev cm : ByteArray := ⟨#[60, 33, 45, 45]⟩
abbrev cd : ByteArray := ⟨#[60, 33, 91, 67, 68, 65, 84, 65, 91]⟩
def PW1 (s : ByteArray) (a : Int) (P : PO) : Prop := IntKind.i64.wrap (a + 4) = a + 4 ∧ ∃ T, FindC s (a + 4) ⟨#[45, 45]⟩ T ∧ ((T < 0) = True ∧ none = P ∨ (T < 0) = False ∧ ∃ b, BegC s T ⟨#[45, 45, 62]⟩ b ∧ (b = false ∧ none = P ∨ b = true ∧ IntKind.i64.wrap (T + 3) = T + 3 ∧ ((0 : Int) ≤ a + 4) = True ∧ (a + 4 ≤ T) = True ∧ (T ≤ (s.size : Int)) = True ∧ some ([(⟨7, a, T + 3, ⟨#[]⟩, s.extract (a + 4).toNat T.toNat⟩ : Tok)], T + 3) = P))
def PW2 (s : ByteArray) (a : Int) (P : PO) : Prop := IntKind.i64.wrap (a + 9) = a + 9 ∧ ∃ T, FindC s (a + 9) ⟨#[93, 93, 62]⟩ T ∧ ((T < 0) = True ∧ none = P ∨ (T < 0) = False ∧ IntKind.i64.wrap (T + 3) = T + 3 ∧ ((0 : Int) ≤ a + 9) = True ∧ (a + 9 ≤ T) = True ∧ (T ≤ (s.size : Int)) = True ∧ some ([(⟨6, a, T + 3, ⟨#[]⟩, s.extract (a + 9).toNat T.toNat⟩ : Tok)], T + 3) = P)
def PW3 (s : ByteArray) (a : Int) (P : PO) : Prop := IntKind.i64.wrap (a + 2) = a + 2 ∧ ∃ E I, NameC s (a + 2) E ∧ SkipC s E I ∧ ((E == a + 2) = true ∧ none = P ∨ (E == a + 2) = false ∧ ∃ b, BegC s I ⟨#[62]⟩ b ∧ (b = false ∧ none = P ∨ b = true ∧ IntKind.i64.wrap (I + 1) = I + 1 ∧ ((0 : Int) ≤ a + 2) = True ∧ (a + 2 ≤ E) = True ∧ (E ≤ (s.size : Int)) = True ∧ some ([(⟨5, a, I + 1, s.extract (a + 2).toNat E.toNat, ⟨#[]⟩⟩ : Tok)], I + 1) = P))
def PW5 (s : ByteArray) (a : Int) (P : PO) : Prop := ∃ T E, FindC s a ⟨#[60]⟩ T ∧ ((T < 0) = True ∧ (s.size : Int) = E ∨ (T < 0) = False ∧ T = E) ∧ ((0 : Int) ≤ a) = True ∧ (a ≤ E) = True ∧ (E ≤ (s.size : Int)) = True ∧ ∃ v b, DecC (s.extract a.toNat E.toNat) v b ∧ (b = false ∧ none = P ∨ b = true ∧ some ([(⟨6, a, E, ⟨#[]⟩, v⟩ : Tok)], E) = P)
def PW (s : ByteArray) (a : Int) (P : PO) : Prop := BegC s a cm true ∧ PW1 s a P ∨ BegC s a cm false ∧ (BegC s a cd true ∧ PW2 s a P ∨ BegC s a cd false ∧ (BegC s a ⟨#[60, 47]⟩ true ∧ PW3 s a P ∨ BegC s a ⟨#[60, 47]⟩ false ∧ (BegC s a ⟨#[60]⟩ true ∧ (∀ w, Calls Tryz.prog 95 #[.string s, .int .i64 a] w (TP P w)) ∨ BegC s a ⟨#[60]⟩ false ∧ PW5 s a P)))
theorem TP.one {w W : World} {p : PO} (b : Bool) (t : Tok) (h : b = false ∧ none = p ∨ b = true ∧ some ([t], t.f2) = p) (hb : Below w.heap.size w W) : TP p w (.returned (.tuple #[.slice (some ⟨W.heap.size, 0, none⟩) 1 1, .bool b])) (W.alloc (.cells #[.int .i64 t.f0, .int .i64 t.f1, .int .i64 t.f2, .string t.f3, .string t.f4] 51)) := by
 refine ⟨([t], b), _, rfl, lit_R hb.size t, ?_, below_alloc hb _⟩
 rcases h with ⟨rfl, rfl⟩ | ⟨rfl, rfl⟩
 ·rfl
 ·exact ⟨rfl, t, rfl, rfl⟩
set_option maxHeartbeats 8000000 in
set_option maxRecDepth 100000 in
theorem piece_go {s : ByteArray} {a : Int} {P : PO} (h : PW s a P) (w : World) : Calls Tryz.prog 66 #[.string s, .int .i64 a] w (TP P w) := by
 rcases h with ⟨h1, q1, T, h6, ⟨q2, hp⟩ | ⟨q2, b, h7, ⟨rfl, hp⟩ | ⟨rfl, q3, q4, q5, q6, hp⟩⟩⟩ | ⟨h1, ⟨h2, q1, T, h6, ⟨q2, hp⟩ | ⟨q2, q3, q4, q5, q6, hp⟩⟩ | ⟨h2, ⟨h3, q1, E, I, h8, h9, ⟨q2, hp⟩ | ⟨q2, b, h7, ⟨rfl, hp⟩ | ⟨rfl, q3, q4, q5, q6, hp⟩⟩⟩ | ⟨h3, ⟨h4, hp⟩ | ⟨h4, T, E, h6, ⟨q2, rfl⟩ | ⟨q2, rfl⟩, q4, q5, q6, v, b, h5, hp⟩⟩⟩⟩
 all_goals
  have HP := Lib.hid hp
  clear hp
  go_enter Tryz.func66, Tryz.ntmps66
  go_wp2_with (first | (go_at_call 93; (with_reducible first | refine (h1 _).mono ?_ | refine (h2 _).mono ?_ | refine (h3 _).mono ?_ | refine (h4 _).mono ?_ | refine (h7 _).mono ?_); rintro e w' ⟨rfl, n1, rfl⟩) | (go_at_call 94; refine (h6 _).mono ?_; rintro e w' ⟨rfl, n2, rfl⟩) | (go_at_call 53; refine (h8 _).mono ?_; rintro e w' ⟨rfl, n3, rfl⟩) | (go_at_call 67; refine (h9 _).mono ?_; rintro e w' ⟨rfl, n4, rfl⟩) | (go_at_call 96; refine (h5 _).mono ?_; rintro e w9 ⟨rfl, hb9⟩; have HB9 := Lib.hid (below_step (pw_below_drewN (Below.refl w.heap.size w) _) hb9); clear hb9) | (go_at_call 95; refine (HP.out _).mono ?_; rintro e w9 ⟨⟨r1, r2⟩, v, rfl, hr, hs, hb9⟩; have HT := Lib.hid hr; have HS := Lib.hid hs; have HB9 := Lib.hid (below_step (pw_below_drewN (Below.refl w.heap.size w) _) hb9); clear hr hs hb9))
  go_ret2
  first
  | exact TP.no HP.out (pw_below_drewN (Below.refl _ _) _)
  | exact TP.one true ⟨_, _, _, _, _⟩ (.inr ⟨rfl, HP.out⟩) (pw_below_drewN (Below.refl _ _) _)
  | exact TP.one b ⟨_, _, _, _, _⟩ HP.out HB9.out
  | exact ⟨(r1, r2), v, rfl, Kd.R_lower HT.out (Nat.le_of_eq (by simp)), HS.out, HB9.out⟩
theorem beg_or {s t : ByteArray} {a : Int} (h0 : 0 ≤ a) (h1 : a ≤ 4294967296) (ht : 0 < t.size) (hts : t.size ≤ 4294967296) {A B : Prop} (hA : standsB s a t = true → A) (hB : ¬ standsB s a t = true → B) : BegC s a t true ∧ A ∨ BegC s a t false ∧ B := by
 by_cases c : standsB s a t = true
 ·exact .inl ⟨begC h0 h1 ht hts c, hA c⟩
 ·exact .inr ⟨begC h0 h1 ht hts (by simpa using c), hB c⟩
theorem piece_C (s : ByteArray) (a : Int) (hs : s.size ≤ 65536) (h0 : 0 ≤ a) (h1 : a < (s.size : Int)) : PW s a (stepP s a) := by
 have hsz : s.data.toList.length = s.size := (Lib.size_eq s).symm
 refine beg_or h0 (by omega) (by decide) (by decide) (fun c1 => ?_) fun c1 => beg_or h0 (by omega) (by decide) (by decide) (fun c2 => ?_) fun c2 => beg_or h0 (by omega) (by decide) (by decide) (fun c3 => ?_) fun c3 => beg_or h0 (by omega) (by decide) (by decide) (fun c4 => ?_) fun c4 => ?_
 ·have hr := stands_room2 s a _ h0 (by decide) c1
  rw [show (cm.size : Int) = 4 from rfl] at hr
  have hP : stepP s a = commentP s.data.toList a := by unfold stepP; rw [if_pos c1]
  rw [hP]
  unfold commentP
  have hle := Lib.index_le (s.data.toList.drop (a.toNat + 4)) [45, 45]
  rw [List.length_drop] at hle
  have hT : findN s.data.toList (⟨#[45, 45]⟩ : ByteArray).data.toList (a + 4).toNat = if Lib.index (s.data.toList.drop (a.toNat + 4)) [45, 45] < 0 then -1 else a + 4 + Lib.index (s.data.toList.drop (a.toNat + 4)) [45, 45] := by
   unfold findN
   rw [show (a + 4).toNat = a.toNat + 4 from by omega, show (⟨#[45, 45]⟩ : ByteArray).data.toList = [45, 45] from rfl]
   split
   ·rfl
   ·omega
  obtain ⟨i, hi⟩ : ∃ i, Lib.index (s.data.toList.drop (a.toNat + 4)) [45, 45] = i := ⟨_, rfl⟩
  rw [hi] at hT hle
  simp only [hi]
  refine ⟨wr64 (by omega) (by omega), _, findC hs (by omega) (by omega) (by decide) (by decide) hT, ?_⟩
  by_cases c : i < 0
  ·rw [if_pos c, if_pos c]
   exact .inl ⟨eq_true (by omega), rfl⟩
  rw [if_neg c, if_neg c]
  have hst : standsB s (a + 4 + i) ⟨#[45, 45, 62]⟩ = Lib.hasPrefix ((s.data.toList.drop (a.toNat + 4)).drop i.toNat) [45, 45, 62] := by
   unfold standsB
   rw [List.drop_drop, show (a + 4 + i).toNat = a.toNat + 4 + i.toNat from by omega]
  refine .inr ⟨eq_false (by omega), _, begC (by omega) (by omega) (by decide) (by decide) hst, ?_⟩
  cases hb : Lib.hasPrefix ((s.data.toList.drop (a.toNat + 4)).drop i.toNat) [45, 45, 62]
  ·exact .inl ⟨rfl, by rw [if_neg (by decide)]⟩
  ·refine .inr ⟨rfl, wr64 (by omega) (by omega), eq_true (by omega), eq_true (by omega), eq_true (by omega), ?_⟩
   rw [if_pos rfl, part_eq s (a + 4) (a + 4 + i) (by omega) ((s.data.toList.drop (a.toNat + 4)).take i.toNat) (by rw [show (a + 4).toNat = a.toNat + 4 from by omega]; congr 1; omega) (by omega)]
 ·have hr := stands_room2 s a _ h0 (by decide) c2
  rw [show (cd.size : Int) = 9 from rfl] at hr
  have hP : stepP s a = plainP s.data.toList a := by unfold stepP; rw [if_neg c1, if_pos c2]
  rw [hP]
  unfold plainP
  have hcf := cut_find s.data.toList [93, 93, 62] (a + 9).toNat
  obtain ⟨T, hT⟩ : ∃ T, findN s.data.toList [93, 93, 62] (a + 9).toNat = T := ⟨_, rfl⟩
  rw [hT] at hcf
  refine ⟨wr64 (by omega) (by omega), T, findC hs (by omega) (by omega) (by decide) (by decide) hT, ?_⟩
  rw [show (a + 9).toNat = a.toNat + 9 from by omega] at hcf
  obtain ⟨c, hc⟩ : ∃ c, Lib.cut (s.data.toList.drop (a.toNat + 9)) [93, 93, 62] = c := ⟨_, rfl⟩
  rw [hc] at hcf
  simp only [hc]
  by_cases c5 : T < 0
  ·have e5 : ¬ c.2.2 = true := by rw [hcf.1, decide_eq_false (by omega)]; decide
   rw [if_neg e5]
   exact .inl ⟨eq_true c5, rfl⟩
  ·have e5 : c.2.2 = true := by rw [hcf.1, decide_eq_true (by omega)]
   obtain ⟨hT1, hc1⟩ := hcf.2 (by omega)
   have hcl : (c.1.length : Int) ≤ (s.size : Int) - (a + 9) := by
    rw [hc1, List.length_take, List.length_drop]; omega
   rw [if_pos e5]
   refine .inr ⟨eq_false c5, wr64 (by omega) (by omega), eq_true (by omega), eq_true (by omega), eq_true (by omega), ?_⟩
   rw [part_eq s (a + 9) T (by omega) c.1 (by rw [show (a + 9).toNat = a.toNat + 9 from by omega, hc1]; congr 1; omega) (by omega), show T + 3 = a + 9 + (c.1.length : Int) + 3 from by omega]
 ·have hr := stands_room2 s a _ h0 (by decide) c3
  rw [show ((⟨#[60, 47]⟩ : ByteArray).size : Int) = 2 from rfl] at hr
  have hP : stepP s a = closingP s a := by unfold stepP; rw [if_neg c1, if_neg c2, if_pos c3]
  rw [hP]
  unfold closingP
  obtain ⟨E, hE⟩ : ∃ E, nameEndP s.data.toList (a + 2) = E := ⟨_, rfl⟩
  obtain ⟨T, hT⟩ : ∃ T, skipP s.data.toList E = T := ⟨_, rfl⟩
  have hE1 := nameEndP_in s.data.toList (a + 2) (by omega) (by omega)
  rw [hE] at hE1
  have hT1 := skipP_in s.data.toList E (by omega) (by omega)
  rw [hT] at hT1
  simp only [hE, hT]
  refine ⟨wr64 (by omega) (by omega), E, T, nameC hs hE, skipC hs hT, ?_⟩
  by_cases c : E = a + 2
  ·rw [if_pos c]
   exact .inl ⟨by simpa using c, rfl⟩
  rw [if_neg c]
  refine .inr ⟨beq_eq_false_iff_ne.2 c, _, begC (by omega) (by omega) (by decide) (by decide) rfl, ?_⟩
  cases hb : standsB s T ⟨#[62]⟩
  ·exact .inl ⟨rfl, by rw [if_neg (by decide)]⟩
  ·exact .inr ⟨rfl, wr64 (by omega) (by omega), eq_true (by omega), eq_true (by omega), eq_true (by omega), by rw [if_pos rfl]; rfl⟩
 ·have hP : stepP s a = tagP s a := by unfold stepP; rw [if_neg c1, if_neg c2, if_neg c3, if_pos c4]
  rw [hP]
  exact fun w => tag_c s a hs h0 (by omega) w
 have hP : stepP s a = textP s.data.toList a := by unfold stepP; rw [if_neg c1, if_neg c2, if_neg c3, if_neg c4]
 rw [hP]
 unfold textP
 have hcf := cut_find s.data.toList [60] a.toNat
 obtain ⟨T, hT⟩ : ∃ T, findN s.data.toList [60] a.toNat = T := ⟨_, rfl⟩
 obtain ⟨c, hc⟩ : ∃ c, Lib.cut (s.data.toList.drop a.toNat) [60] = c := ⟨_, rfl⟩
 rw [hT, hc] at hcf
 simp only [hc]
 have hcl : c.1.length ≤ (s.data.toList.drop a.toNat).length := by rw [← hc]; exact cut_le _ _
 rw [List.length_drop] at hcl
 have hE : ((T < 0) = True ∧ (s.size : Int) = a + (c.1.length : Int) ∨ (T < 0) = False ∧ T = a + (c.1.length : Int)) ∧ (s.extract a.toNat (a + (c.1.length : Int)).toNat).data.toList = c.1 := by
  by_cases c5 : T < 0
  ·have hcu : c.1 = s.data.toList.drop a.toNat := by
    rw [← hc]
    unfold Lib.cut
    rw [if_neg]
    intro hi
    have : (Lib.cut (s.data.toList.drop a.toNat) [60]).2.2 = true := by unfold Lib.cut; rw [if_pos hi]
    rw [hc, hcf.1, decide_eq_true_eq] at this
    omega
   have hlen : (s.size : Int) = a + (c.1.length : Int) := by rw [hcu, List.length_drop]; omega
   exact ⟨.inl ⟨eq_true c5, hlen⟩, by rw [← hlen, Lib.extract_data, hcu, List.take_of_length_le (by rw [List.length_drop]; omega)]⟩
  ·obtain ⟨hT1, hc1⟩ := hcf.2 (by omega)
   have hTa : T = a + (c.1.length : Int) := by omega
   have hx : (s.extract a.toNat T.toNat).data.toList = c.1 := by rw [Lib.extract_data, hc1]; congr 1; omega
   exact ⟨.inr ⟨eq_false c5, hTa⟩, by rw [← hTa]; exact hx⟩
 obtain ⟨hE, hR⟩ := hE
 have hRs : (s.extract a.toNat (a + (c.1.length : Int)).toNat).size ≤ 65536 := by rw [Lib.size_eq, hR]; omega
 refine ⟨T, _, findC hs h0 (by omega) (by decide) (by decide) hT, hE, eq_true h0, eq_true (by omega), eq_true (by omega), _, _, decC hRs rfl, ?_⟩
 rw [hR]
 cases hd : dec c.1 with
 | none => exact .inl ⟨rfl, rfl⟩
 | some v =>
  have hv : (⟨#[]⟩ : ByteArray) ++ (⟨v.toArray⟩ : ByteArray) = ⟨v.toArray⟩ := by
   apply ByteArray.ext; apply Array.ext'; simp [ByteArray.data_append]
  refine .inr ⟨rfl, ?_⟩
  show some ([(⟨6, a, _, _, (⟨#[]⟩ : ByteArray) ++ (⟨v.toArray⟩ : ByteArray)⟩ : Tok)], _) = _
  rw [hv]
theorem piece_c (s : ByteArray) (a : Int) (hs : s.size ≤ 65536) (h0 : 0 ≤ a) (h1 : a < (s.size : Int)) (w : World) : Calls Tryz.prog 66 #[.string s, .int .i64 a] w (TP (stepP s a) w) := piece_go (piece_C s a hs h0 h1) w
theorem lex_end {l : List Tok} {n : Nat} (hn : l.length = n) {t : Tok} (ht : l.getLast? = some t) (h : n ≤ 4294967296) {W : World} {A : Option Addr} (hC : Kd.C k51 W A n l) : ∃ (ad : Addr) (m : Nat), A = some ad ∧ IntKind.i64.wrap ((n : Int) - 1) = (m : Int) ∧ ((0 : Int) ≤ (m : Int)) = True ∧ ((m : Int) < (n : Int)) = True ∧ W.cell? ⟨(ad.add (m * 5)).block, (ad.add (m * 5)).off + 2, none⟩ = some (.int .i64 t.f2) := by
 obtain ⟨pre, rfl⟩ := List.getLast?_eq_some_iff.1 ht
 rw [List.length_append, List.length_singleton] at hn
 obtain ⟨ad, hA, -, -, r2, -, -⟩ := at_T51 hC (pre.length : Int) (by omega) (by omega)
 have hrd : rd_T51 (pre ++ [t]) (pre.length : Int) = t := by unfold rd_T51; rw [Int.toNat_natCast]; simp
 rw [hrd, Int.toNat_natCast] at r2
 exact ⟨ad, pre.length, hA, by rw [wr64 (by omega) (by omega)]; omega, eq_true (by omega), eq_true (by omega), r2⟩
def LP (p : List Tok × Int) (w : World) (e : Ending) (w' : World) : Prop := ∃ v : Value, e = .returned (.tuple #[v, .int .i64 p.2]) ∧ Kd.R k51 51 w' w.heap.size (fun _ => True) v p.1 ∧ Below w.heap.size w w'
theorem LP.no {w w' : World} {p : List Tok × Int} {n : Int} (h : ([], n) = p) (hb : Below w.heap.size w w') : LP p w (.returned (.tuple #[.slice none 0 0, .int .i64 n])) w' := by
 subst h
 exact ⟨_, rfl, Kd.R_nil _ _ _ _ _, hb⟩
set_option maxHeartbeats 8000000 in
set_option maxRecDepth 100000 in
theorem lexref_c (s : ByteArray) (w : World) : Calls Tryz.prog 32 #[.string s] w (LP (lexV s) w) := by
 obtain ⟨P, hP⟩ : ∃ P, lexV s = P := ⟨_, rfl⟩
 rw [hP]
 unfold lexV at hP
 by_cases c1 : (65536 : Int) < (s.size : Int)
 ·rw [if_pos c1] at hP
  have HP := Lib.hid hP
  have q1 : ((65536 : Int) < (s.size : Int)) = True := eq_true c1
  clear hP c1
  go_enter Tryz.func32, Tryz.ntmps32
  go_wp2
  go_ret2
  exact LP.no HP.out (Below.refl _ _)
 rw [if_neg c1] at hP
 have q1 : ((65536 : Int) < (s.size : Int)) = False := eq_false c1
 have hv := fun W => R1_Valid.calls _ s _ W (ref_valid_f s (by omega) 0)
 obtain ⟨b, hb⟩ : ∃ b, validL s.data.toList = b := ⟨_, rfl⟩
 rw [hb] at hv hP
 have HV := Lib.hid hv
 have HS := Lib.hid (show s.size ≤ 65536 by omega)
 have HP := Lib.hid hP
 clear hv hP hb c1
 cases b
 ·go_enter Tryz.func32, Tryz.ntmps32
  go_wp2_with (go_at_call 65; refine (HV.out _).mono ?_; rintro e w1 ⟨rfl, hb1⟩; have HB := Lib.hid hb1; clear hb1)
  go_ret2
  exact LP.no HP.out HB.out
 have HQ := Lib.hid (show (match lexF s (s.size + 1) 0 [] with | some l => (l, 0) | none => ([], 15)) = P from HP.out)
 clear HP
 go_enter Tryz.func32, Tryz.ntmps32
 go_wp2_with (go_at_call 65; refine (HV.out _).mono ?_; rintro e w1 ⟨rfl, hb1⟩; have HB := Lib.hid hb1; clear hb1)
 clear q1 HV
 go_loopw [5, 6] (fun v5 v6 wr => ∃ (l : List Tok) (a : Int) (k : Nat), v6 = .int .i64 a ∧ Hid (0 ≤ a ∧ a ≤ (s.size : Int) ∧ (l.length : Int) ≤ a ∧ (s.size : Int) - a < k ∧ (match lexF s k a l with | some l => (l, (0 : Int)) | none => ([], 15)) = P) ∧ Hid (Kd.R k51 51 wr w.heap.size (fun _ => True) v5 l) ∧ Hid (Below w.heap.size w wr)) (fun v5 v6 wr => s.size - (intOf v6).toNat)
 case atStart => exact ⟨[], 0, s.size + 1, rfl, Lib.hid ⟨by omega, by omega, by simp, by omega, HQ.out⟩, Lib.hid (Kd.R_nil _ _ _ _ _), HB⟩
 case round =>
  clear HQ HB
  obtain ⟨l, a, k, rfl, HX, HR, HB⟩ := hrel
  obtain ⟨x0, x1, x2, x3, x4⟩ := HX.out
  obtain ⟨k, rfl⟩ : ∃ j, k = j + 1 := ⟨k - 1, by omega⟩
  unfold lexF at x4
  by_cases hlt : a < (s.size : Int)
  ·rw [if_pos hlt] at x4
   have q1 : (a < (s.size : Int)) = True := eq_true hlt
   have hpc := fun W => piece_c s a HS.out x0 hlt W
   cases hst : stepP s a with
   | none =>
    rw [hst] at x4 hpc
    have HP := Lib.hid x4
    have HPC := Lib.hid hpc
    clear hpc x0 x1 x2 x3 x4 hlt hst HX
    go_wp2_with (go_at_call 66; refine (HPC.out _).mono ?_; rintro e w2 ⟨⟨r1, r2⟩, v, rfl, hr, hs2, hb2⟩; obtain rfl : r2 = false := hs2; have HB2 := Lib.hid (below_step HB.out hb2); clear hr hb2)
    go_ret2
    exact LP.no HP.out HB2.out
   | some p =>
    obtain ⟨new, a'⟩ := p
    have hroom := step_room s a x0 hlt new a' hst
    rw [hst] at x4 hpc
    have HPC := Lib.hid hpc
    have HX2 := Lib.hid (show 0 ≤ a ∧ 0 ≤ a' ∧ a' ≤ (s.size : Int) ∧ ((l ++ new).length : Int) ≤ a' ∧ (s.size : Int) - a' < k ∧ a < a' ∧ (match lexF s k a' (l ++ new) with | some l => (l, (0 : Int)) | none => ([], 15)) = P from ⟨x0, by omega, hroom.2.1, zz36, by omega, hroom.1, x4⟩)
    have HLn := Lib.hid (show new.length ≤ 65536 ∧ (l.length + new.length) * 56 ≤ 140737488355328 by have := HS.out; omega)
    clear hpc x0 x1 x2 x3 x4 hlt hst hroom HX
    obtain ⟨A5, c5, rfl⟩ := Kd.R_slice HR.out
    obtain ⟨n9, hn9⟩ : ∃ n9, new.length = n9 := ⟨_, rfl⟩
    rw [hn9] at HLn
    go_wp2_with (first | (go_at_call 66; refine (HPC.out _).mono ?_; rintro e w2 ⟨⟨r1, r2⟩, v, rfl, hr, ⟨hs1, t, ht, hta⟩, hb2⟩; obtain ⟨rfl, rfl⟩ := Prod.mk.inj hs1; obtain ⟨A9, c9, e9⟩ := Kd.R_slice hr; rw [hn9] at e9; subst e9; have HO := Lib.hid (Kd.R_mono (Kd.R_elder' HR.out (Kd.R_base hr) hb2) (fun _ hk => hk.2)); have HP9 := Lib.hid (Kd.R_lower (Kd.R_new' hr (Kd.R_lt HR.out)) HB.out.size); have HB2 := Lib.hid (below_step HB.out hb2); have q2 : ((n9 : Int) == 0) = false := (by obtain ⟨pre, rfl⟩ := List.getLast?_eq_some_iff.1 ht; rw [List.length_append, List.length_singleton] at hn9; rw [beq_eq_false_iff_ne]; omega); have HTL := Lib.hid ht; have HTA := Lib.hid hta; clear hr hb2 hs1 ht hta) | (at_builtin; refine Kd.R_append_rows k51 (w0 := w) w.heap.size rfl (.tmp 33) (.tmp 34) 43 51 (.agg #[.int .i64 0, .int .i64 0, .int .i64 0, .string ⟨#[]⟩, .string ⟨#[]⟩]) 56 rfl Tryz.underlying43 info51 rfl (by decide) (by omega) (.slice A5 l.length c5) l r1 _ _ _ (fun k_ => some k_ ≠ (.slice A9 n9 c9 : Value).ownBlock) (fun _ => False) rfl rfl ?aO ?aR (fun _ _ h => h) (fun _ h => h.elim) ?aF ?aB ?aS ?aL ?_; (case aR => have := (Kd.R_reads' HP9.out).2.2; rw [hn9] at this; exact this); (case aB => exact HB2.out); (case aF => exact fun k_ hk => Kd.fresh' (Kd.R_lt HP9.out) k_ hk); (case aO => exact HO.out); (case aS => exact HB2.out.size); (case aL => exact HLn.out.2); intro v1 w3 ho hb hg hat; have hpr := (Kd.R_reads' (Kd.R_after (ok := fun _ => True) HP9.out hg hat)).2.2; rw [hn9] at hpr; have HO3 := Lib.hid (Kd.R_mono ho (fun _ _ => trivial)); have HB3 := Lib.hid hb; obtain ⟨ad, m, rfl, e2, p1, p2, r2⟩ := lex_end hn9 HTL.out (by have := HLn.out; omega) hpr; clear ho hb hg hat hpr))
    obtain ⟨z1, z2, z3, z4, z5, z6, z7⟩ := HX2.out
    have hta := HTA.out
    go_roundw
    case rel => exact ⟨l ++ r1, _, k, rfl, by rw [hta]; exact Lib.hid ⟨z2, z3, z4, z5, z7⟩, HO3, HB3⟩
    case measure => simp [intOf]; omega
  ·rw [if_neg hlt] at x4
   have q1 : (a < (s.size : Int)) = False := eq_false hlt
   have HP := Lib.hid x4
   clear x0 x1 x2 x3 x4 hlt HX
   go_wp2
   go_ret2
   rw [← HP.out]
   exact ⟨_, rfl, HR.out, HB.out⟩
end Go.Proofs.YtlhhhlimjajnlaaGreat.P12
end
section
set_option linter.unusedVariables false
set_option linter.unusedSimpArgs false
namespace Go.Proofs.YtlhhhlimjajnlaaGreat.X
open Go.RowKit Go.Proofs.YtlhhhlimjajnlaaGreat Go.Proofs.YtlhhhlimjajnlaaGreat.Q Go.Proofs.YtlhhhlimjajnlaaGreat.P11 Go.Proofs.YtlhhhlimjajnlaaGreat.P14 Go.Proofs.YtlhhhlimjajnlaaGreat.Ck Go.Proofs.YtlhhhlimjajnlaaGreatW.PrintWords Go.Proofs.YtlhhhlimjajnlaaGreatW.PrintLast Go.Proofs.YtlhhhlimjajnlaaGreatW.PrintMore
attribute [local go_sem] max2_int min2_int max_two min_two   
theorem nd_cases (nn : Nat) (x0 x1 x2 : Int) (x3 : ByteArray) {v R : Bool} (hv : validL x3.data.toList = v) (hR : okNod nn ⟨x0, x1, x2, x3⟩ = R) :
 (x0 == 1) = true ∧ (((0 : Int) ≤ x1) = False ∧ R = false ∨ ((0 : Int) ≤ x1) = True ∧ ((x1 < (nn : Int)) = False ∧ R = false ∨ (x1 < (nn : Int)) = True ∧ ∃ e, (x3.toList == []) = e ∧ x3.toList.isEmpty = e ∧ R = e)) ∨
 (x0 == 1) = false ∧ ((x0 == 2) = true ∧ (((0 : Int) ≤ x1) = False ∧ R = false ∨ ((0 : Int) ≤ x1) = True ∧ ((x1 < (nn : Int)) = False ∧ R = false ∨ (x1 < (nn : Int)) = True ∧ R = v)) ∨
 (x0 == 2) = false ∧ ((x0 == 3) = true ∧ ((x1 == -1) = true ∧ ((0 : Int) ≤ x1) = False ∧ ((x3.toList == []) = true ∧ x3.toList.isEmpty = true ∧ R = false ∨ (x3.toList == []) = false ∧ x3.toList.isEmpty = false ∧ R = v) ∨ (x1 == -1) = false ∧ (((0 : Int) ≤ x1) = False ∨ ((0 : Int) ≤ x1) = True ∧ ((x1 < (nn : Int)) = False ∨ (x1 < (nn : Int)) = True)) ∧ R = false) ∨
 (x0 == 3) = false ∧ (((0 : Int) ≤ x1) = False ∨ ((0 : Int) ≤ x1) = True ∧ ((x1 < (nn : Int)) = False ∨ (x1 < (nn : Int)) = True)) ∧ R = false)) := by
 subst hR
 unfold okNod namedP
 rw [hv]
 simp only
 have he : x3.toList = x3.data.toList := Lib.toList_data x3
 have hA : ((0 : Int) ≤ x1) = False ∨ ((0 : Int) ≤ x1) = True ∧ ((x1 < (nn : Int)) = False ∨ (x1 < (nn : Int)) = True) := by
  by_cases a : 0 ≤ x1
  ·refine .inr ⟨eq_true a, ?_⟩
   by_cases b : x1 < (nn : Int)
   ·exact .inr (eq_true b)
   ·exact .inl (eq_false b)
  ·exact .inl (eq_false a)
 by_cases k1 : x0 = 1
 ·subst k1
  refine .inl ⟨rfl, ?_⟩
  rw [if_neg (by omega)]
  rcases hA with a | ⟨a, b | b⟩
  ·exact .inl ⟨a, by simp [a]⟩
  ·exact .inr ⟨a, .inl ⟨b, by simp [b]⟩⟩
  ·refine .inr ⟨a, .inr ⟨b, (x3.data.toList == []), by rw [he], by rw [he]; cases x3.data.toList <;> rfl, ?_⟩⟩
   cases hc : (x3.data.toList == [])
   ·simp [a, b]
   ·have : x3.data.toList = [] := by simpa using hc
    rw [this] at hv
    have hv' : v = true := by rw [← hv]; rfl
    simp [a, b, hv']
 refine .inr ⟨beq_eq_false_iff_ne.2 k1, ?_⟩
 by_cases k2 : x0 = 2
 ·subst k2
  refine .inl ⟨rfl, ?_⟩
  rw [if_neg (by omega)]
  rcases hA with a | ⟨a, b | b⟩
  ·exact .inl ⟨a, by simp [a]⟩
  ·exact .inr ⟨a, .inl ⟨b, by simp [b]⟩⟩
  ·exact .inr ⟨a, .inr ⟨b, by simp [a, b]⟩⟩
 refine .inr ⟨beq_eq_false_iff_ne.2 k2, ?_⟩
 by_cases k3 : x0 = 3
 ·subst k3
  refine .inl ⟨rfl, ?_⟩
  rw [if_pos rfl]
  by_cases c : x1 = -1
  ·refine .inl ⟨by simpa using c, eq_false (by omega), ?_⟩
   cases hc : (x3.data.toList == [])
   ·exact .inr ⟨by rw [he]; exact hc, by rw [he, ← hc]; cases x3.data.toList <;> rfl, by simp [c]⟩
   ·exact .inl ⟨by rw [he]; exact hc, by rw [he, ← hc]; cases x3.data.toList <;> rfl, by simp⟩
  ·exact .inr ⟨beq_eq_false_iff_ne.2 c, hA, by simp [c]⟩
 ·refine .inr ⟨beq_eq_false_iff_ne.2 k3, hA, ?_⟩
  rw [if_neg k3]
  simp [k1, k2]
set_option maxHeartbeats 8000000 in
set_option maxRecDepth 100000 in
theorem node_h {D : List Nod} {nn n cN cD i : Nat} {AN AD : Option Addr} {w : World} (hnD : D.length = n) (hD : Kd.C k41 w AD n D) (hi : i < n) (hx : (D.getD i nz).f3.size ≤ 1000000000) :
 Calls Tryz.prog 49 #[.agg #[.slice AN nn cN, .slice AD n cD], .int .i64 i] w fun e w' => e = .returned (.bool (okNod nn (D.getD i nz))) ∧ Below w.heap.size w w' := by
 obtain ⟨ad, hA, r0, r1, r2, r3⟩ := at_T41 hD (i : Int) (by omega) (by omega)
 subst hA
 rw [show rd_T41 D (i : Int) = D.getD i nz from rfl, Int.toNat_natCast] at r0 r1 r2 r3
 obtain ⟨⟨x0, x1, x2, x3⟩, hxx⟩ : ∃ x, D.getD i nz = x := ⟨_, rfl⟩
 rw [hxx] at r0 r1 r2 r3 hx ⊢
 dsimp only at r0 r1 r2 r3 hx
 have hva := fun W => R1_Valid.calls _ x3 _ W (ref_valid_f x3 (by omega) 0)
 obtain ⟨v, hv⟩ : ∃ v, validL x3.data.toList = v := ⟨_, rfl⟩
 rw [hv] at hva
 obtain ⟨R, hR⟩ : ∃ R, okNod nn ⟨x0, x1, x2, x3⟩ = R := ⟨_, rfl⟩
 have hc := nd_cases nn x0 x1 x2 x3 hv hR
 rw [hR]
 have p1 : ((0 : Int) ≤ (i : Int)) = True := eq_true (by omega)
 have p2 : ((i : Int) < (n : Int)) = True := eq_true (by omega)
 have hk := blk_new w (.cells #[.slice AN nn cN, .slice (some ad) n cD] 27)
 have hb := below_alloc (Below.refl w.heap.size w) (.cells #[.slice AN nn cN, .slice (some ad) n cD] 27)
 replace r0 := (hb.cell (World.block_lt_of_cell? w _ r0)).trans r0
 replace r1 := (hb.cell (World.block_lt_of_cell? w _ r1)).trans r1
 replace r2 := (hb.cell (World.block_lt_of_cell? w _ r2)).trans r2
 replace r3 := (hb.cell (World.block_lt_of_cell? w _ r3)).trans r3
 have HV := Lib.hid hva
 clear hva hv hR hxx hx hD hnD
 go_enter Tryz.func49, Tryz.ntmps49
 go_upto_region 1 with (fail)
 generalize w.alloc (.cells #[.slice AN nn cN, .slice (some ad) n cD] 27) = w1 at hk hb r0 r1 r2 r3 ⊢
 have x0' := (blk_cell hk 0).trans (show _ = some (Value.slice AN nn cN) from rfl)
 have x1' := (blk_cell hk 1).trans (show _ = some (Value.slice (some ad) n cD) from rfl)
 go_upto_region 2 with (fail)
 have hk2 := blk_new w1 (.cells #[.int .i64 x0, .int .i64 x1, .int .i64 x2, .string x3] 41)
 have hb2 := below_alloc (Below.refl w1.heap.size w1) (.cells #[.int .i64 x0, .int .i64 x1, .int .i64 x2, .string x3] 41)
 generalize w1.alloc (.cells #[.int .i64 x0, .int .i64 x1, .int .i64 x2, .string x3] 41) = w2 at hk2 hb2 ⊢
 have HB2 := Lib.hid (below_step hb hb2)
 have HK2 := Lib.hid hk2
 have y0 := (blk_cell (blk_below hk hb2) 0).trans (show _ = some (Value.slice AN nn cN) from rfl)
 have c0 := (blk_cell hk2 0).trans (show _ = some (Value.int .i64 x0) from rfl)
 have c1 := (blk_cell hk2 1).trans (show _ = some (Value.int .i64 x1) from rfl)
 have c3 := (blk_cell hk2 3).trans (show _ = some (Value.string x3) from rfl)
 clear hk hb hk2 hb2 r0 r1 r2 r3 x0' x1' p1 p2
 rcases hc with ⟨k1, ⟨a, rfl⟩ | ⟨a, ⟨b, rfl⟩ | ⟨b, e, e1, e2, rfl⟩⟩⟩ | ⟨k1, ⟨k2, ⟨a, rfl⟩ | ⟨a, ⟨b, rfl⟩ | ⟨b, rfl⟩⟩⟩ | ⟨k2, ⟨k3, ⟨c, a, ⟨e1, e2, rfl⟩ | ⟨e1, e2, rfl⟩⟩ | ⟨c, a | ⟨a, b | b⟩, rfl⟩⟩ | ⟨k3, a | ⟨a, b | b⟩, rfl⟩⟩⟩
 all_goals
  go_wp2_with (go_at_call 65; refine (HV.out _).mono ?_; rintro e' w3 ⟨rfl, hb3⟩; have HB3 := Lib.hid (below_step HB2.out hb3); have d0 := (blk_cell (blk_below HK2.out hb3) 0).trans (show _ = some (Value.int .i64 x0) from rfl); have d1 := (blk_cell (blk_below HK2.out hb3) 1).trans (show _ = some (Value.int .i64 x1) from rfl); have d3 := (blk_cell (blk_below HK2.out hb3) 3).trans (show _ = some (Value.string x3) from rfl); clear hb3)
  go_ret
  exact ⟨by first | rfl | (cases v <;> rfl), HB3.out⟩
end Go.Proofs.YtlhhhlimjajnlaaGreat.X
end
