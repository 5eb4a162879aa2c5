/- Parts of the proof of canonTrees_holds, kept and merged by a program of mine (wip/tools/slim.py) out of my texts: P11d P11y P14c -/
import Derived.Test.YtlhhhlimjajnlaaGreatSPt23
import Derived.Test.YtlhhhlimjajnlaaGreatSPt24
import Derived.Test.YtlhhhlimjajnlaaGreatSPt4
import Derived.Test.YtlhhhlimjajnlaaGreatSPt25
import Derived.Test.YtlhhhlimjajnlaaGreatSPt16
import Derived.Test.YtlhhhlimjajnlaaGreatSPt17
import Derived.Test.YtlhhhlimjajnlaaGreatSPt5
import Derived.Test.YtlhhhlimjajnlaaGreatSPt26
import Derived.Test.YtlhhhlimjajnlaaGreatSPt10
import Derived.Test.YtlhhhlimjajnlaaGreatSPt11
import Derived.Test.YtlhhhlimjajnlaaGreatSPt9
section
set_option linter.unusedVariables false
set_option linter.unusedSimpArgs false
namespace Go.Proofs.YtlhhhlimjajnlaaGreat.P11
open Go Go.RowKit Go.Proofs.YtlhhhlimjajnlaaGreat Go.Proofs.YtlhhhlimjajnlaaGreat.Q Go.Proofs.YtlhhhlimjajnlaaGreatW.PrintWords Go.Proofs.YtlhhhlimjajnlaaGreat.X Go.Proofs.YtlhhhlimjajnlaaGreat.RefE
def lessN (n : Nat) : Int := if n = 2 then 192 else if n = 3 then 224 else if n = 4 then 240 else 0
def codeGo : Int → List UInt8 → Int
 | c, [] => c
 | c, b :: t => codeGo (c * 64 + (b.toNat : Int) - 128) t
def refCode (n : Nat) : List UInt8 → Int
 | [] => 0
 | b :: t => codeGo ((b.toNat : Int) - lessN n) (t.take (n - 1))
theorem refCode_enc (c : Int) (hp : pointB c = true) (t : List UInt8) : refCode (sizeN c).toNat (encL c ++ t) = c := by
 have hb := point_range hp
 unfold encL sizeN
 rw [if_pos hp]
 by_cases h1 : c < 128
 ·rw [if_pos h1, if_pos h1]
  have e0 := byteI_nat c hb.1 (by omega)
  show codeGo ((byteI c).toNat - lessN 1) [] = c
  rw [codeGo, show lessN 1 = 0 from rfl]; omega
 rw [if_neg h1, if_neg h1]
 by_cases h2 : c < 2048
 ·rw [if_pos h2, if_pos h2]
  have e0 := byteI_nat (192 + c / 64) (by omega) (by omega)
  have e1 := byteI_nat (128 + c % 64) (by omega) (by omega)
  show codeGo ((byteI (192 + c / 64)).toNat - lessN 2) [byteI (128 + c % 64)] = c
  rw [codeGo, codeGo, show lessN 2 = 192 from rfl]; omega
 rw [if_neg h2, if_neg h2]
 by_cases h3 : c < 65536
 ·rw [if_pos h3, if_pos h3]
  have e0 := byteI_nat (224 + c / 4096) (by omega) (by omega)
  have e1 := byteI_nat (128 + c / 64 % 64) (by omega) (by omega)
  have e2 := byteI_nat (128 + c % 64) (by omega) (by omega)
  show codeGo ((byteI (224 + c / 4096)).toNat - lessN 3) [byteI (128 + c / 64 % 64), byteI (128 + c % 64)] = c
  rw [codeGo, codeGo, codeGo, show lessN 3 = 224 from rfl]; omega
 rw [if_neg h3, if_neg h3]
 have e0 := byteI_nat (240 + c / 262144) (by omega) (by omega)
 have e1 := byteI_nat (128 + c / 4096 % 64) (by omega) (by omega)
 have e2 := byteI_nat (128 + c / 64 % 64) (by omega) (by omega)
 have e3 := byteI_nat (128 + c % 64) (by omega) (by omega)
 show codeGo ((byteI (240 + c / 262144)).toNat - lessN 4) [byteI (128 + c / 4096 % 64), byteI (128 + c / 64 % 64), byteI (128 + c % 64)] = c
 rw [codeGo, codeGo, codeGo, codeGo, show lessN 4 = 240 from rfl]; omega
def tryN (n : Nat) (l : List UInt8) : Bool := decide (encL (refCode n l) ≠ []) && (encL (refCode n l) == l.take n)
theorem try_yes (n : Nat) (l : List UInt8) (hn : n ≤ l.length) (h : tryN n l = true) : decL l = (refCode n l, (n : Int)) := by
 unfold tryN at h
 simp only [Bool.and_eq_true, decide_eq_true_eq, beq_iff_eq] at h
 obtain ⟨h1, h2⟩ := h
 have hp : pointB (refCode n l) = true := by
  by_cases hp : pointB (refCode n l) = true
  ·exact hp
  ·exact absurd ((enc_nil _).2 (by simpa using hp)) h1
 have hl := enc_len _ hp
 have hd := dec_enc _ hp (l.drop n)
 rw [h2, List.take_append_drop] at hd
 rw [hd]
 congr 1
 rw [← hl, h2, List.length_take]
 omega
theorem try_at (l : List UInt8) (h : ¬ (decL l).2 = 0) : tryN (decL l).2.toNat l = true ∧ 1 ≤ (decL l).2.toNat ∧ (decL l).2.toNat ≤ 4 ∧ (decL l).2.toNat ≤ l.length := by
 obtain ⟨hp, hs, t, ht⟩ := enc_dec l h
 have hr := dec_range l
 have hl := enc_len _ hp
 refine ⟨?_, by omega, by omega, by omega⟩
 have hc : refCode (decL l).2.toNat l = (decL l).1 := by
  have := refCode_enc _ hp t
  rw [← ht, ← hs] at this
  exact this
 unfold tryN
 rw [hc]
 simp only [Bool.and_eq_true, decide_eq_true_eq, beq_iff_eq]
 refine ⟨fun e => ?_, ?_⟩
 ·rw [e] at hl
  have := sizeN_range (decL l).1
  simp at hl; omega
 ·have : l.take (decL l).2.toNat = (encL (decL l).1 ++ t).take (decL l).2.toNat := by rw [← ht]
  rw [this, hs, ← hl, Int.toNat_natCast, List.take_left]
def triesFrom (l : List UInt8) : Nat → Nat → Int × Int
 | 0, _ => (-1, 0)
 | d + 1, n => if n ≤ l.length then (if tryN n l then (refCode n l, (n : Int)) else triesFrom l d (n + 1)) else (-1, 0)
theorem tries_eq (l : List UInt8) : triesFrom l 4 1 = decL l := by
 have hno : ∀ d n, n + d = 5 → (∀ m, 1 ≤ m → m < n → tryN m l = true → ¬ m ≤ l.length) → triesFrom l d n = decL l := by
  intro d
  induction d with
  | zero =>
   intro n hn h
   rw [triesFrom]
   by_cases h0 : (decL l).2 = 0
   ·exact (dec_none l h0).symm
   ·obtain ⟨a, b, c, e⟩ := try_at l h0
    exact absurd e (h _ b (by omega) a)
  | succ d ih =>
   intro n hn h
   rw [triesFrom]
   by_cases hl : n ≤ l.length
   ·rw [if_pos hl]
    by_cases ht : tryN n l = true
    ·rw [if_pos ht]
     exact (try_yes n l hl ht).symm
    ·rw [if_neg ht]
     refine ih (n + 1) (by omega) fun m h1 h2 h3 => ?_
     by_cases hm : m = n
     ·subst hm; exact absurd h3 ht
     ·exact h m h1 (by omega) h3
   ·rw [if_neg hl]
    by_cases h0 : (decL l).2 = 0
    ·exact (dec_none l h0).symm
    ·obtain ⟨a, b, c, e⟩ := try_at l h0
     by_cases hm : (decL l).2.toNat < n
     ·exact absurd e (h _ b hm a)
     ·omega
 exact hno 4 1 rfl fun m h1 h2 => by omega
theorem code_bound : ∀ (t : List UInt8) (c : Int), t.length ≤ 3 → -1000 ≤ c → c ≤ 1000 → -300000000 ≤ codeGo c t ∧ codeGo c t ≤ 300000000 := by
 intro t c h h0 h1
 match t, h with
 | [], _ => rw [codeGo]; omega
 | [x], _ => have := x.toNat_lt; rw [codeGo, codeGo]; omega
 | [x, y], _ => have := x.toNat_lt; have := y.toNat_lt; rw [codeGo, codeGo, codeGo]; omega
 | [x, y, z], _ => have := x.toNat_lt; have := y.toNat_lt; have := z.toNat_lt; rw [codeGo, codeGo, codeGo, codeGo]; omega
def endOf (k : Nat) (s : ByteArray) (a n : Nat) (code : Int) : Option (Int × Int) :=
 if encL code = [] then R1_Rune.l0 k s a ((n : Int) + 1) else if encL code = (s.data.toList.drop a).take n then some (code, (n : Int)) else R1_Rune.l0 k s a ((n : Int) + 1)
theorem rune_l1 (s : ByteArray) (a n : Nat) (hs : s.size ≤ 4294967296) (hn : n ≤ 4) (ha : a + n ≤ s.size) (d : Nat) : ∀ (i k : Nat) (c : Int), i + d = n → 1 ≤ i → i ≤ 4 → -300000000 ≤ c → c ≤ 300000000 →
 (∀ j, j ≤ d → -300000000 ≤ codeGo c ((s.data.toList.drop (a + i)).take j) ∧ codeGo c ((s.data.toList.drop (a + i)).take j) ≤ 300000000) →
 R1_Rune.l1 (k + d + 1) s a n c i = endOf k s a n (codeGo c ((s.data.toList.drop (a + i)).take d)) := by
 induction d with
 | zero =>
  intro i k c hi h1 h4 hc0 hc1 hall
  rw [R1_Rune.l1, if_neg (by omega), encode_f, Option.bind_some, List.take_zero, codeGo, Lib.toList_data]
  unfold endOf
  have hdat : (⟨(encL c).toArray⟩ : ByteArray).data.toList = encL c := rfl
  rw [hdat, wr ((n : Int) + 1) (by omega) (by omega)]
  by_cases he : encL c = []
  ·rw [if_pos he, if_pos he]
  rw [if_neg he, if_neg he, if_pos (by omega), wr ((a : Int) + (n : Int)) (by omega) (by omega), if_pos (by omega), if_pos (by omega), Lib.extract_toList, Int.toNat_natCast, show ((a : Int) + (n : Int)).toNat - a = n from by omega]
 | succ d ih =>
  intro i k c hi h1 h4 hc0 hc1 hall
  have hlt : a + i < s.size := by omega
  rw [show k + (d + 1) + 1 = (k + d + 1) + 1 from by omega, R1_Rune.l1, if_pos (by omega)]
  have hw : wrap64 ((a : Int) + (i : Int)) = ((a + i : Nat) : Int) := by rw [wr _ (by omega) (by omega)]; omega
  rw [hw, if_pos (by omega), if_pos (by omega), if_neg (by omega), bt_get s _ hlt, drop_cons s _ hlt, List.take_succ_cons, codeGo]
  obtain ⟨x, hx⟩ : ∃ x, s[a + i] = x := ⟨_, rfl⟩
  rw [hx]
  have hxl := x.toNat_lt
  have hall' : ∀ j, j ≤ d → -300000000 ≤ codeGo (c * 64 + (x.toNat : Int) - 128) ((s.data.toList.drop (a + i + 1)).take j) ∧ codeGo (c * 64 + (x.toNat : Int) - 128) ((s.data.toList.drop (a + i + 1)).take j) ≤ 300000000 := by
   intro j hj
   have := hall (j + 1) (by omega)
   rw [drop_cons s _ hlt, List.take_succ_cons, codeGo, hx] at this
   exact this
  have h0 := hall' 0 (by omega)
  rw [List.take_zero, codeGo] at h0
  rw [wr (c * 64) (by omega) (by omega), wr (x.toNat : Int) (by omega) (by omega), wr (c * 64 + (x.toNat : Int)) (by omega) (by omega), wr (c * 64 + (x.toNat : Int) - 128) (by omega) (by omega), wr ((i : Int) + 1) (by omega) (by omega)]
  have := ih (i + 1) k (c * 64 + (x.toNat : Int) - 128) (by omega) (by omega) (by omega) h0.1 h0.2 hall'
  rw [show ((i + 1 : Nat) : Int) = (i : Int) + 1 from by omega, show a + (i + 1) = a + i + 1 from by omega] at this
  exact this
theorem rune_try (s : ByteArray) (a n : Nat) (hs : s.size ≤ 4294967296) (h1 : 1 ≤ n) (hn : n ≤ 4) (ha : a + n ≤ s.size) (k : Nat) :
 R1_Rune.l1 (k + n + 2) s a n 0 0 = endOf k s a n (refCode n (s.data.toList.drop a)) := by
 have hlt : a < s.size := by omega
 rw [R1_Rune.l1, if_pos (by omega)]
 have hw : wrap64 ((a : Int) + 0) = (a : Int) := by rw [wr _ (by omega) (by omega)]; omega
 rw [hw, if_pos (by omega), if_pos (by omega), if_pos rfl, bt_get s _ hlt, drop_cons s _ hlt]
 obtain ⟨x, hx⟩ : ∃ x, s[a] = x := ⟨_, rfl⟩
 rw [hx]
 have hxl := x.toNat_lt
 rw [wr (x.toNat : Int) (by omega) (by omega)]
 have hless : 0 ≤ lessN n ∧ lessN n ≤ 240 := by unfold lessN; repeat' split <;> omega
 have hj : ∀ y : Int, (n ≠ 3 → n ≠ 4 → y = lessN n) → R1_Rune.j4 (k + n + 1) s a n 0 (x.toNat : Int) y = R1_Rune.l1 (k + n) s a n ((x.toNat : Int) - lessN n) 1 := by
  intro y hy
  rw [R1_Rune.j4]
  by_cases h3 : n = 3
  ·subst h3
   rw [if_pos (by omega), if_neg (by omega), wr _ (by omega) (by omega), wr _ (by omega) (by omega)]
   rfl
  ·rw [if_neg (by omega)]
   by_cases h4 : n = 4
   ·subst h4
    rw [if_pos (by omega), wr _ (by omega) (by omega), wr _ (by omega) (by omega)]
    rfl
   ·rw [if_neg (by omega), hy h3 h4, wr _ (by omega) (by omega), wr _ (by omega) (by omega)]
    rfl
 have hfin : R1_Rune.l1 (k + n) s a n ((x.toNat : Int) - lessN n) 1 = endOf k s a n (refCode n (x :: s.data.toList.drop (a + 1))) := by
  have hb : ∀ j, j ≤ n - 1 → -300000000 ≤ codeGo ((x.toNat : Int) - lessN n) ((s.data.toList.drop (a + 1)).take j) ∧ codeGo ((x.toNat : Int) - lessN n) ((s.data.toList.drop (a + 1)).take j) ≤ 300000000 :=
   fun j hj => code_bound _ _ (by rw [List.length_take]; omega) (by omega) (by omega)
  have := rune_l1 s a n hs hn ha (n - 1) 1 k ((x.toNat : Int) - lessN n) (by omega) (by omega) (by omega) (by omega) (by omega) hb
  rw [show k + (n - 1) + 1 = k + n from by omega] at this
  exact this
 by_cases h2 : n = 2
 ·subst h2
  rw [if_pos (by rfl), hj 192 (fun _ _ => rfl), hfin]
 ·rw [if_neg (by omega), hj 0 (fun h3 h4 => by unfold lessN; rw [if_neg h2, if_neg h3, if_neg h4]), hfin]
theorem rune_l0 (s : ByteArray) (a : Nat) (hs : s.size ≤ 4294967296) (ha : a < s.size) (d : Nat) : ∀ (n k : Nat), n + d = 5 → 1 ≤ n → 10 * d + 2 ≤ k →
 R1_Rune.l0 k s a n = some (triesFrom (s.data.toList.drop a) d n) := by
 have hlen : (s.data.toList.drop a).length = s.size - a := by rw [List.length_drop, len_data]
 induction d with
 | zero =>
  intro n k hn h1 hk
  obtain ⟨k, rfl⟩ : ∃ m, k = m + 2 := ⟨k - 2, by omega⟩
  rw [R1_Rune.l0, if_neg (by omega), R1_Rune.j2, if_neg (by decide), triesFrom]
 | succ d ih =>
  intro n k hn h1 hk
  obtain ⟨k, rfl⟩ : ∃ m, k = m + n + 4 := ⟨k - n - 4, by omega⟩
  rw [R1_Rune.l0, if_pos (by omega), wr ((s.size : Int) - (a : Int)) (by omega) (by omega), triesFrom]
  by_cases hl : n ≤ (s.data.toList.drop a).length
  ·rw [if_pos hl, show decide ((n : Int) ≤ (s.size : Int) - (a : Int)) = true from by simp; omega, R1_Rune.j2, if_pos rfl, rune_try s a n hs h1 (by omega) (by omega)]
   unfold endOf
   have hr := ih (n + 1) k (by omega) (by omega) (by omega)
   rw [show ((n + 1 : Nat) : Int) = (n : Int) + 1 from by omega] at hr
   by_cases he : encL (refCode n (s.data.toList.drop a)) = []
   ·have ht : tryN n (s.data.toList.drop a) = false := by unfold tryN; simp [he]
    rw [if_pos he, ht, hr]; rfl
   ·rw [if_neg he]
    by_cases he2 : encL (refCode n (s.data.toList.drop a)) = (s.data.toList.drop a).take n
    ·have ht : tryN n (s.data.toList.drop a) = true := by unfold tryN; simp [he, ← he2]
     rw [if_pos he2, ht]; rfl
    ·have ht : tryN n (s.data.toList.drop a) = false := by unfold tryN; simp [he2]
     rw [if_neg he2, ht, hr]; rfl
  ·rw [if_neg hl, show decide ((n : Int) ≤ (s.size : Int) - (a : Int)) = false from by simp; omega, R1_Rune.j2, if_neg (by decide)]
theorem ref_rune_f (s : ByteArray) (a : Int) (hs : s.size ≤ 4294967296) (k : Nat) : R1_Rune.f (k + 43) s a = some (runeP s.data.toList a) := by
 have hl := len_data s
 unfold R1_Rune.f runeP
 by_cases h0 : a < 0
 ·rw [if_pos h0, R1_Rune.j0, if_pos rfl, if_neg (by omega)]
 rw [if_neg h0]
 by_cases h1 : a ≥ (s.size : Int)
 ·rw [show decide (a ≥ (s.size : Int)) = true from by simpa using h1, R1_Rune.j0, if_pos rfl, if_neg (by omega)]
 ·obtain ⟨n, rfl⟩ := Int.eq_ofNat_of_zero_le (by omega : 0 ≤ a)
  rw [show decide ((n : Int) ≥ (s.size : Int)) = false from by simpa using h1, R1_Rune.j0, if_neg (by decide), if_pos (by omega), Int.toNat_natCast]
  have := rune_l0 s n hs (by omega) 4 1 (k + 42) rfl (by omega) (by omega)
  rw [tries_eq] at this
  exact this
theorem ref_valid_l0 (s : ByteArray) (hs : s.size ≤ 4294967296) (d : Nat) : ∀ (n k : Nat), s.size - n = d → n ≤ s.size → d + 50 ≤ k → R1_Valid.l0 k s n = some (validL (s.data.toList.drop n)) := by
 induction d using Nat.strongRecOn with
 | ind d ih =>
  intro n k hd hn hk
  obtain ⟨k, rfl⟩ : ∃ m, k = m + 1 := ⟨k - 1, by omega⟩
  rw [R1_Valid.l0]
  by_cases hlt : n < s.size
  ·rw [if_pos (by omega), show k = (k - 43) + 43 from by omega, ref_rune_f s n hs, Option.bind_some, allowed_f, Option.bind_some, valid_at s n hlt]
   have hp : runeP s.data.toList (n : Int) = decL (s.data.toList.drop n) := by
    unfold runeP
    rw [if_pos ⟨by omega, by rw [len_data]; omega⟩, Int.toNat_natCast]
   have hr := dec_range (s.data.toList.drop n)
   rw [← hp, List.length_drop, len_data] at hr
   by_cases h0 : (runeP s.data.toList (n : Int)).2 = 0
   ·rw [if_pos h0, h0]; rfl
   ·rw [if_neg h0, show decide (0 < (runeP s.data.toList (n : Int)).2) = true from by simp; omega, Bool.true_and]
    by_cases ha : allowedB (runeP s.data.toList (n : Int)).1 = true
    ·rw [if_pos ha, ha, Bool.true_and, wr _ (by omega) (by omega), show (n : Int) + (runeP s.data.toList (n : Int)).2 = ((n + (runeP s.data.toList (n : Int)).2.toNat : Nat) : Int) from by omega]
     exact ih _ (by omega) _ _ rfl (by omega) (by omega)
    ·rw [if_neg ha, show allowedB (runeP s.data.toList (n : Int)).1 = false from by simpa using ha]; rfl
  ·rw [if_neg (by omega), List.drop_of_length_le (by rw [len_data]; omega)]; rfl
theorem ref_valid_f (s : ByteArray) (hs : s.size ≤ 4294967296) (k : Nat) : R1_Valid.f (s.size + 50 + k) s = some (validL s.data.toList) :=
 ref_valid_l0 s hs s.size 0 _ (by omega) (by omega) (by omega)
theorem nat_of_bt (s : ByteArray) (n : Nat) (h : n < s.size) (c : UInt8) (hc : s[n] = c) : bt s (n : Int) = (c.toNat : Int) := by rw [bt_get s n h, hc]
set_option maxHeartbeats 4000000 in
theorem ref_name_step (s : ByteArray) (a : Int) (n : Nat) (hs : s.size ≤ 4294967296) (hlt : n < s.size) (c : UInt8) (hc : s[n] = c) (k : Nat) :
 R1_NameEnd.l0 (k + 2) s a n = if nameB c = true ∨ (moreB c = true ∧ (n : Int) ≠ a) then R1_NameEnd.l0 k s a ((n + 1 : Nat) : Int) else some (n : Int) := by
 have hw : wrap64 ((n : Int) + 1) = ((n + 1 : Nat) : Int) := by rw [wr _ (by omega) (by omega)]; omega
 rw [R1_NameEnd.l0, if_pos (by omega), show decide ((n : Int) < (s.size : Int)) = true from by simp; omega, R1_NameEnd.j1, if_pos rfl, if_pos (by omega), if_pos (by omega), nat_of_bt s n hlt c hc, hw]
 have hcl := c.toNat_lt
 unfold nameB moreB
 simp only [decide_eq_true_eq]
 generalize R1_NameEnd.l0 k s a ((n + 1 : Nat) : Int) = A
 generalize c.toNat = v at *
 clear hw hc hs hlt
 repeat' (first | (exfalso; omega) | split)
 all_goals rfl
theorem ref_name_l0 (s : ByteArray) (a : Int) (hs : s.size ≤ 4294967296) (d : Nat) : ∀ (n k : Nat), s.size - n = d → n ≤ s.size → a < n → 2 * d + 2 ≤ k → R1_NameEnd.l0 k s a n = some ((n : Int) + ((s.data.toList.drop n).takeWhile fun c => nameB c || moreB c).length) := by
 induction d with
 | zero =>
  intro n k hd hn ha hk
  obtain ⟨k, rfl⟩ : ∃ m, k = m + 2 := ⟨k - 2, by omega⟩
  rw [R1_NameEnd.l0, if_pos (by omega), show decide ((n : Int) < (s.size : Int)) = false from by simp; omega, R1_NameEnd.j1, if_neg (by decide), List.drop_of_length_le (by rw [len_data]; omega)]
  simp
 | succ d ih =>
  intro n k hd hn ha hk
  obtain ⟨k, rfl⟩ : ∃ m, k = m + 2 := ⟨k - 2, by omega⟩
  have hlt : n < s.size := by omega
  obtain ⟨c, hc⟩ : ∃ c, s[n] = c := ⟨_, rfl⟩
  rw [ref_name_step s a n hs hlt c hc, drop_cons s n hlt, hc]
  by_cases h : (nameB c || moreB c) = true
  ·rw [List.takeWhile_cons_of_pos (p := fun c => nameB c || moreB c) h, if_pos (by
    simp only [Bool.or_eq_true] at h
    exact h.imp_right fun h => ⟨h, by omega⟩), ih (n + 1) k (by omega) (by omega) (by omega) (by omega), List.length_cons]
   congr 1
   omega
  ·rw [List.takeWhile_cons_of_neg (p := fun c => nameB c || moreB c) h, if_neg (fun h' => h (by
    simp only [Bool.or_eq_true]
    exact h'.imp_right fun h => h.1))]
   simp
theorem ref_name_f (s : ByteArray) (a : Int) (hs : s.size ≤ 4294967296) (k : Nat) : R1_NameEnd.f (2 * s.size + 2 + k) s a = some (nameEndP s.data.toList a) := by
 unfold R1_NameEnd.f nameEndP
 have hl := len_data s
 by_cases h0 : 0 ≤ a ∧ a < s.size
 ·obtain ⟨n, rfl⟩ := Int.eq_ofNat_of_zero_le h0.1
  have hlt : n < s.size := by omega
  obtain ⟨c, hc⟩ : ∃ c, s[n] = c := ⟨_, rfl⟩
  rw [if_pos ⟨h0.1, by omega⟩, Int.toNat_natCast, show 2 * s.size + 2 + k = (2 * s.size + k) + 2 from by omega, ref_name_step s n n hs hlt c hc, drop_cons s n hlt, hc]
  simp only [nameLen]
  by_cases hn : nameB c = true
  ·rw [if_pos (.inl hn), if_pos hn, ref_name_l0 s n hs (s.size - (n + 1)) (n + 1) _ rfl (by omega) (by omega) (by omega)]
   congr 1
   omega
  ·rw [if_neg (by simp [hn]), if_neg hn]
   simp
 ·rw [if_neg (by omega), show 2 * s.size + 2 + k = (2 * s.size + k) + 2 from by omega, R1_NameEnd.l0]
  by_cases h2 : a ≥ 0
  ·rw [if_pos h2, show decide (a < (s.size : Int)) = false from by simp; omega, R1_NameEnd.j1, if_neg (by decide)]
  ·rw [if_neg h2, R1_NameEnd.j1, if_neg (by decide)]
theorem ref_escape_l0 (s : ByteArray) (hs : s.size ≤ 4294967296) (d : Nat) : ∀ (n k : Nat) (t : ByteArray), s.size - n = d → n ≤ s.size → d + 1 ≤ k → t.size ≤ 6 * n → R1_Escape.l0 k s t n = some (t ++ ⟨(escL (s.data.toList.drop n)).toArray⟩) := by
 have happ : ∀ (t : ByteArray) (l : List UInt8), (t ++ (⟨l.toArray⟩ : ByteArray)).size = t.size + l.length := by
  intro t l
  have h : (⟨l.toArray⟩ : ByteArray).size = l.length := by simp [ByteArray.size]
  rw [ByteArray.size_append, h]
 induction d with
 | zero =>
  intro n k t hd hn hk ht
  obtain ⟨k, rfl⟩ : ∃ m, k = m + 1 := ⟨k - 1, by omega⟩
  rw [R1_Escape.l0, if_neg (by omega), List.drop_of_length_le (by rw [len_data]; omega)]
  congr 1
  exact (ByteArray.append_empty).symm
 | succ d ih =>
  intro n k t hd hn hk ht
  obtain ⟨k, rfl⟩ : ∃ m, k = m + 1 := ⟨k - 1, by omega⟩
  have hlt : n < s.size := by omega
  obtain ⟨c, hc⟩ : ∃ c, s[n] = c := ⟨_, rfl⟩
  have hw : wrap64 ((n : Int) + 1) = ((n + 1 : Nat) : Int) := by rw [wr _ (by omega) (by omega)]; omega
  have hstep : ∀ l : List UInt8, l.length ≤ 6 → escB c = l → R1_Escape.l0 k s (t ++ (⟨l.toArray⟩ : ByteArray)) ((n + 1 : Nat) : Int) = some (t ++ ⟨(escL (s.data.toList.drop n)).toArray⟩) := by
   intro l hl he
   rw [ih (n + 1) k _ (by omega) (by omega) (by omega) (by rw [happ]; omega), drop_cons s n hlt, hc]
   congr 1
   rw [ByteArray.append_assoc]
   congr 1
   have : escL (c :: s.data.toList.drop (n + 1)) = l ++ escL (s.data.toList.drop (n + 1)) := by rw [← he]; simp [escL]
   rw [this, ← List.append_toArray]
   apply ByteArray.ext
   rw [ByteArray.data_append]
  rw [R1_Escape.l0, if_pos (by omega), if_pos (by omega), nat_of_bt s n hlt c hc, hw]
  have hne : ∀ b : UInt8, ¬ c = b → ¬ ((c.toNat : Int) = (b.toNat : Int)) := fun b h e => h (UInt8.toNat_inj.1 (by omega))
  by_cases h1 : c = 38
  ·subst h1
   rw [if_pos (show (((38 : UInt8).toNat : Int)) = 38 from rfl), if_pos (by omega)]
   exact hstep [38, 97, 109, 112, 59] (by decide) rfl
  rw [if_neg (show ¬ ((c.toNat : Int) = 38) from hne 38 h1)]
  by_cases h2 : c = 60
  ·subst h2
   rw [if_pos (show (((60 : UInt8).toNat : Int)) = 60 from rfl), if_pos (by omega)]
   exact hstep [38, 108, 116, 59] (by decide) rfl
  rw [if_neg (show ¬ ((c.toNat : Int) = 60) from hne 60 h2)]
  by_cases h3 : c = 62
  ·subst h3
   rw [if_pos (show (((62 : UInt8).toNat : Int)) = 62 from rfl), if_pos (by omega)]
   exact hstep [38, 103, 116, 59] (by decide) rfl
  rw [if_neg (show ¬ ((c.toNat : Int) = 62) from hne 62 h3)]
  by_cases h4 : c = 34
  ·subst h4
   rw [if_pos (show (((34 : UInt8).toNat : Int)) = 34 from rfl), if_pos (by omega)]
   exact hstep [38, 113, 117, 111, 116, 59] (by decide) rfl
  rw [if_neg (show ¬ ((c.toNat : Int) = 34) from hne 34 h4), if_pos (by omega), if_pos (by omega)]
  have hx : s.extract (n : Int).toNat ((n + 1 : Nat) : Int).toNat = ⟨[c].toArray⟩ := by
   rw [Lib.extract_eq, Int.toNat_natCast, Int.toNat_natCast, drop_cons s n hlt, hc, show n + 1 - n = 1 from by omega]
   rfl
  rw [hx, if_pos (by rw [show (⟨[c].toArray⟩ : ByteArray).size = 1 from rfl]; omega)]
  exact hstep [c] (by simp) (by unfold escB; rw [if_neg h1, if_neg h2, if_neg h3, if_neg h4])
theorem ref_escape_f (s : ByteArray) (hs : s.size ≤ 4294967296) (k : Nat) : R1_Escape.f (s.size + 1 + k) s = some ⟨(escL s.data.toList).toArray⟩ := by
 have := ref_escape_l0 s hs s.size 0 (s.size + 1 + k) ⟨#[]⟩ (by omega) (by omega) (by omega) (by decide)
 rw [List.drop_zero] at this
 unfold R1_Escape.f
 refine this.trans ?_
 congr 1
theorem name_f (s : ByteArray) (hs : s.size ≤ 4294967296) : chars_Name.f s = some (if s.data.toList = [] then false else nameEndP s.data.toList 0 == (s.size : Int)) := by
 unfold chars_Name.f
 rw [Lib.toList_data]
 by_cases h : s.data.toList = []
 ·rw [if_pos h, if_pos h]
 ·rw [if_neg h, if_neg h, chars_NameEnd.f, if_pos hs]; rfl
end Go.Proofs.YtlhhhlimjajnlaaGreat.P11
end
section
set_option linter.unusedVariables false
set_option linter.unusedSimpArgs false
namespace Go.Proofs.YtlhhhlimjajnlaaGreat.P14
open Go.RowKit Go.Proofs.YtlhhhlimjajnlaaGreat Go.Proofs.YtlhhhlimjajnlaaGreat.Q Go.Proofs.YtlhhhlimjajnlaaGreatW.PrintWords Go.Proofs.YtlhhhlimjajnlaaGreat.X Go.Proofs.YtlhhhlimjajnlaaGreat.Ck
def prK (l : List Nod) : List (Nd × Int) := l.map fun x => (x, x.f1)
theorem prK_app (a b : List Nod) : prK (a ++ b) = prK a ++ prK b := List.map_append
theorem prK_len (a : List Nod) : (prK a).length = a.length := List.length_map _
theorem prK_nil {a : List Nod} : prK a = [] ↔ a = [] := List.map_eq_nil_iff
def atts (l : List (Nd × Int)) (p : Int) : List Int := ((kids l p).filter fun c => decide (c.1.f0 = 2)).map fun c => c.2
theorem twice_atts (l : List (Nd × Int)) (p k : Int) : twice l p k = decide (k ∈ atts l p) := by
 unfold twice atts
 rw [Bool.eq_iff_iff, List.any_eq_true, decide_eq_true_eq, List.mem_map]
 constructor
 ·rintro ⟨c, h1, h2⟩
  rw [Bool.and_eq_true, decide_eq_true_eq, decide_eq_true_eq] at h2
  exact ⟨c, List.mem_filter.2 ⟨h1, by simpa using h2.1⟩, h2.2⟩
 ·rintro ⟨c, h1, h2⟩
  rw [List.mem_filter, decide_eq_true_eq] at h1
  exact ⟨c, h1.1, by rw [Bool.and_eq_true, decide_eq_true_eq, decide_eq_true_eq]; exact ⟨h1.2, h2⟩⟩
theorem more_snoc (l : List (Nd × Int)) (c : Nd × Int) (p : Int) : more (l ++ [c]) p = if c.1.f2 = p then (more l p || decide (¬ c.1.f0 = 2)) else more l p := by
 unfold more
 rw [kids_snoc]
 by_cases h : c.1.f2 = p
 ·rw [if_pos h, if_pos h, List.any_append]; simp
 ·rw [if_neg h, if_neg h]
theorem atts_snoc (l : List (Nd × Int)) (c : Nd × Int) (p : Int) : atts (l ++ [c]) p = if c.1.f2 = p ∧ c.1.f0 = 2 then atts l p ++ [c.2] else atts l p := by
 unfold atts
 rw [kids_snoc]
 by_cases h : c.1.f2 = p
 ·rw [if_pos h, List.filter_append, List.map_append]
  by_cases h2 : c.1.f0 = 2
  ·rw [if_pos ⟨h, h2⟩]; simp [h2]
  ·rw [if_neg (fun e => h2 e.2)]; simp [h2]
 ·rw [if_neg h, if_neg (fun e => h e.1)]
theorem kids_far (l : List (Nd × Int)) (op : List Int) (h : rows l = some op) (p : Nat) (hp : l.length ≤ p) : kids l (p : Int) = [] := by
 cases hk : kids l (p : Int) with
 | nil => rfl
 | cons c t =>
  obtain ⟨i, h1, h2, -⟩ := kids_behind l op h (p : Int) (by omega) c (by rw [hk]; exact List.mem_cons_self ..)
  have := (List.getElem?_eq_some_iff.1 h1).1
  omega
structure CI (n : Nat) (P : List Nod) (s : CS) : Prop where
 r : rows (prK P) = some s.op
 ml : s.m.length = n
 tl : s.t.length = n
 m : ∀ p : Nat, s.m.getD p false = more (prK P) p
 t : ∀ p : Nat, s.t.getD p false = textLast (prK P) p
 a : ∀ p : Nat, (s.a p).getD [] = atts (prK P) p
theorem getD_set {α : Type} (l : List α) (i j : Nat) (x d : α) (h : i < l.length) : (l.set i x).getD j d = if i = j then x else l.getD j d := by
 rw [List.getD_eq_getElem?_getD, List.getD_eq_getElem?_getD, List.getElem?_set]
 by_cases e : i = j
 ·rw [if_pos e, if_pos e, if_pos h]; rfl
 ·rw [if_neg e, if_neg e]
theorem CI.zero (n : Nat) : CI n [] (zeroC n) := by
 refine ⟨rfl, by simp [zeroC], by simp [zeroC], fun p => ?_, fun p => ?_, fun p => rfl⟩
 ·show (List.replicate n false).getD p false = false
  rw [List.getD_eq_getElem?_getD, List.getElem?_replicate]; split <;> rfl
 ·show (List.replicate n false).getD p false = false
  rw [List.getD_eq_getElem?_getD, List.getElem?_replicate]; split <;> rfl
theorem place_some {op : List Int} {p : Int} (h : p ∈ op) : placeP op p = some (op.take (op.idxOf p + 1)) := if_pos h
theorem place_none {op : List Int} {p : Int} (h : ¬ p ∈ op) : placeP op p = none := if_neg h
theorem CI.step {n nn : Nat} {P : List Nod} {s : CS} {x : Nod} (h : CI n P s) (hn : P.length < n) (hx : x.f0 = 1 ∨ x.f0 = 2 ∨ x.f0 = 3) :
 match rightC s P.length x with
 | none => right (prK P) s.op x x.f1 = none
 | some s' => right (prK P) s.op x x.f1 = some (openC s' P.length x).op ∧ CI n (P ++ [x]) (openC s' P.length x) := by
 obtain ⟨p1, p2⟩ := rows_path _ _ _ rfl h.r
 have hap : prK (P ++ [x]) = prK P ++ [(x, x.f1)] := prK_app _ _
 have rowOf : ∀ o, right (prK P) s.op x x.f1 = some o → rows (prK (P ++ [x])) = some o := fun o e => by rw [hap, rows_snoc _ _ _ h.r]; exact e
 unfold rightC
 by_cases h0 : P.length = 0
 ·have hP : P = [] := List.eq_nil_of_length_eq_zero h0
  subst hP
  have hop : s.op = [] := p2.1 rfl
  rw [if_pos h0]
  by_cases c : x.f0 = 1 ∧ x.f2 = -1
  ·rw [if_pos c]
   have hr : right (prK []) s.op x x.f1 = some [0] := by
    unfold right; rw [if_pos (show prK [] = [] from rfl), if_pos c]
   have ho : (openC s ([] : List Nod).length x) = ⟨[0], s.m, s.t, fun p => if p = 0 then some [] else s.a p⟩ := by
    unfold openC; rw [if_pos c.1, hop]; rfl
   simp only
   rw [ho]
   refine ⟨hr, rowOf _ hr, h.ml, h.tl, fun p => ?_, fun p => ?_, fun p => ?_⟩
   ·rw [hap, more_snoc, if_neg (by show ¬ x.f2 = _; omega)]; exact h.m p
   ·rw [hap, text_snoc, if_neg (by show ¬ x.f2 = _; omega)]; exact h.t p
   ·rw [hap, atts_snoc, if_neg (by show ¬ (x.f2 = _ ∧ _); omega)]
    show (if p = 0 then some [] else s.a p).getD [] = _
    by_cases e : p = 0
    ·rw [if_pos e]; rfl
    ·rw [if_neg e]; exact h.a p
  ·rw [if_neg c]
   show right (prK []) s.op x x.f1 = none
   unfold right; rw [if_pos (show prK [] = [] from rfl), if_neg c]
 ·have hne : ¬ prK P = [] := fun e => h0 (by rw [prK_nil.1 e]; rfl)
  rw [if_neg h0]
  unfold right
  rw [if_neg hne]
  by_cases hm : x.f2 ∈ s.op
  ·rw [place_some hm, if_pos hm]
   simp only
   obtain ⟨j, hj⟩ := List.mem_iff_getElem?.1 hm
   obtain ⟨z1, z2, -⟩ := p1 j _ hj
   rw [prK_len] at z2
   have hcast : ((x.f2.toNat : Nat) : Int) = x.f2 := by omega
   have ht : x.f2.toNat < n := by omega
   have key : ∀ p : Nat, (x.f2 = (p : Int)) ↔ x.f2.toNat = p := fun p => by omega
   have hmore : s.m.getD x.f2.toNat false = more (prK P) x.f2 := by rw [h.m, hcast]
   have htext : s.t.getD x.f2.toNat false = textLast (prK P) x.f2 := by rw [h.t, hcast]
   have hatt : (s.a x.f2.toNat).getD [] = atts (prK P) x.f2 := by rw [h.a, hcast]
   have hrr : ∀ o, right (prK P) s.op x x.f1 = some o → rows (prK (P ++ [x])) = some o := rowOf
   unfold right at hrr
   rw [if_neg hne, if_pos hm] at hrr
   simp only at hrr
   rw [hmore, htext, hatt]
   by_cases k1 : x.f0 = 1
   ·rw [if_pos k1]
    rw [if_pos k1] at hrr
    by_cases kd : 64 < (s.op.take (s.op.idxOf x.f2 + 1)).length
    ·rw [if_pos ⟨k1, kd⟩, if_pos kd]
    ·rw [if_neg (fun e => kd e.2), if_neg (by omega), if_neg (by omega), if_neg kd]
     rw [if_neg kd] at hrr
     simp only
     unfold openC
     rw [if_pos k1]
     rw [prK_len] at hrr ⊢
     refine ⟨rfl, hrr _ rfl, (List.length_set ..).trans h.ml, (List.length_set ..).trans h.tl, fun p => ?_, fun p => ?_, fun p => ?_⟩
     ·rw [hap, more_snoc, getD_set _ _ _ _ _ (by rw [h.ml]; exact ht)]
      by_cases e : x.f2.toNat = p
      ·rw [if_pos e, if_pos ((key p).2 e)]; simp [k1]
      ·rw [if_neg e, if_neg (fun e' => e ((key p).1 e'))]; exact h.m p
     ·rw [hap, text_snoc, getD_set _ _ _ _ _ (by rw [h.tl]; exact ht)]
      by_cases e : x.f2.toNat = p
      ·rw [if_pos e, if_pos ((key p).2 e)]; simp [k1]
      ·rw [if_neg e, if_neg (fun e' => e ((key p).1 e'))]; exact h.t p
     ·rw [hap, atts_snoc, if_neg (by show ¬ (x.f2 = _ ∧ x.f0 = 2); omega)]
      show (if p = P.length then some [] else s.a p).getD [] = _
      by_cases e : p = P.length
      ·rw [if_pos e]
       unfold atts
       rw [kids_far _ _ h.r p (by rw [prK_len]; omega)]; rfl
      ·rw [if_neg e]; exact h.a p
   ·rw [if_neg k1, if_neg (fun e => k1 e.1)]
    rw [if_neg k1] at hrr
    by_cases k2 : x.f0 = 2
    ·rw [if_pos k2, if_pos k2]
     rw [if_pos k2] at hrr
     by_cases kd : more (prK P) x.f2 = true ∨ x.f1 ∈ atts (prK P) x.f2
     ·have kd' : more (prK P) x.f2 = true ∨ twice (prK P) x.f2 x.f1 = true := by rw [twice_atts, decide_eq_true_eq]; exact kd
      rw [if_pos kd, if_pos kd']
     ·have kd' : ¬ (more (prK P) x.f2 = true ∨ twice (prK P) x.f2 x.f1 = true) := by rw [twice_atts, decide_eq_true_eq]; exact kd
      rw [if_neg kd, if_neg kd']
      rw [if_neg kd'] at hrr
      simp only
      unfold openC
      rw [if_neg k1]
      refine ⟨rfl, hrr _ rfl, h.ml, h.tl, fun p => ?_, fun p => ?_, fun p => ?_⟩
      ·rw [hap, more_snoc]
       by_cases e : x.f2.toNat = p
       ·rw [if_pos ((key p).2 e)]
        show s.m.getD p false = _
        rw [h.m]; simp [k2]
       ·rw [if_neg (fun e' => e ((key p).1 e'))]; exact h.m p
      ·rw [hap, text_snoc]
       by_cases e : x.f2.toNat = p
       ·rw [if_pos ((key p).2 e)]
        show s.t.getD p false = _
        rw [h.t]
        have hall : ∀ c, c ∈ kids (prK P) (p : Int) → c.1.f0 = 2 := fun c hc => by
         have hn : more (prK P) x.f2 = false := by
          cases hmm : more (prK P) x.f2 with
          | false => rfl
          | true => exact absurd (.inl hmm) kd
         unfold more at hn
         rw [List.any_eq_false] at hn
         have := hn c (by rw [(key p).2 e]; exact hc)
         simpa using this
        unfold textLast
        cases hl : (kids (prK P) (p : Int)).getLast? with
        | none => simp [k2]
        | some c =>
         have := hall c (List.mem_of_getLast? hl)
         simp [this, k2]
       ·rw [if_neg (fun e' => e ((key p).1 e'))]; exact h.t p
      ·rw [hap, atts_snoc]
       show (if p = x.f2.toNat then some (atts (prK P) x.f2 ++ [x.f1]) else s.a p).getD [] = _
       by_cases e : x.f2.toNat = p
       ·rw [if_pos e.symm, if_pos ⟨(key p).2 e, k2⟩, (key p).2 e]; rfl
       ·rw [if_neg (fun e' => e e'.symm), if_neg (fun e' => e ((key p).1 e'.1))]; exact h.a p
    ·have k3 : x.f0 = 3 := by omega
     rw [if_neg k2, if_pos k3, if_neg k2]
     rw [if_neg k2] at hrr
     by_cases kd : textLast (prK P) x.f2 = true
     ·rw [if_pos kd, if_pos kd]
     ·rw [if_neg kd, if_neg kd]
      rw [if_neg kd] at hrr
      simp only
      unfold openC
      rw [if_neg k1]
      refine ⟨rfl, hrr _ rfl, (List.length_set ..).trans h.ml, (List.length_set ..).trans h.tl, fun p => ?_, fun p => ?_, fun p => ?_⟩
      ·rw [hap, more_snoc, getD_set _ _ _ _ _ (by rw [h.ml]; exact ht)]
       by_cases e : x.f2.toNat = p
       ·rw [if_pos e, if_pos ((key p).2 e)]; simp [k3]
       ·rw [if_neg e, if_neg (fun e' => e ((key p).1 e'))]; exact h.m p
      ·rw [hap, text_snoc, getD_set _ _ _ _ _ (by rw [h.tl]; exact ht)]
       by_cases e : x.f2.toNat = p
       ·rw [if_pos e, if_pos ((key p).2 e)]; simp [k3]
       ·rw [if_neg e, if_neg (fun e' => e ((key p).1 e'))]; exact h.t p
      ·rw [hap, atts_snoc, if_neg (by show ¬ (x.f2 = _ ∧ x.f0 = 2); omega)]; exact h.a p
  ·rw [place_none hm, if_neg hm]
def okNod (nn : Nat) (x : Nod) : Bool := namedP nn x && validL x.f3.data.toList
theorem named_kinds {nn : Nat} {x : Nod} (h : namedP nn x = true) : x.f0 = 1 ∨ x.f0 = 2 ∨ x.f0 = 3 := by
 unfold namedP at h
 split at h
 ·rename_i e; exact .inr (.inr e)
 ·simp only [Bool.and_eq_true, Bool.or_eq_true, decide_eq_true_eq] at h
  rcases h.2 with h | h
  ·exact .inr (.inl h)
  ·exact .inl h.1
theorem nodes_run (n nn : Nat) : ∀ (R P : List Nod) (s : CS), CI n P s → P.length + R.length ≤ n → (nodesC nn R P.length s).isSome = (R.all (okNod nn) && (run (prK P) (prK R) s.op).isSome)
 | [], P, s, h, _ => rfl
 | x :: R, P, s, h, hn => by
  have hn : P.length + (R.length + 1) ≤ n := hn
  show (match stepC nn s P.length x with | none => none | some s' => nodesC nn R (P.length + 1) s').isSome = _
  rw [List.all_cons]
  unfold stepC
  by_cases c : namedP nn x = true ∧ validL x.f3.data.toList = true
  ·rw [if_pos c]
   have hs := h.step (nn := nn) (x := x) (by omega) (named_kinds c.1)
   have ho : okNod nn x = true := by unfold okNod; rw [c.1, c.2]; rfl
   rw [ho, Bool.true_and]
   show _ = (R.all (okNod nn) && (run (prK P) ((x, x.f1) :: prK R) s.op).isSome)
   rw [run]
   simp only
   cases hr : rightC s P.length x with
   | none =>
    rw [hr] at hs
    simp only at hs
    rw [hs]
    simp
   | some s' =>
    rw [hr] at hs
    obtain ⟨h1, h2⟩ := hs
    rw [h1]
    have ih := nodes_run n nn R (P ++ [x]) _ h2 (by rw [List.length_append, List.length_singleton]; omega)
    rw [List.length_append, List.length_singleton, prK_app] at ih
    exact ih
  ·rw [if_neg c]
   have ho : okNod nn x = false := by
    unfold okNod
    cases h1 : namedP nn x with
    | false => rfl
    | true => cases h2 : validL x.f3.data.toList with
     | false => rfl
     | true => exact absurd ⟨h1, h2⟩ c
   rw [ho]; simp
theorem nodes_rows (nn : Nat) (D : List Nod) : (nodesC nn D 0 (zeroC D.length)).isSome = (D.all (okNod nn) && (rows (prK D)).isSome) := by
 have := nodes_run D.length nn D [] _ (CI.zero D.length) (by simp)
 have e : (rows (prK D)).isSome = (run [] (prK D) []).isSome := by unfold rows; cases run [] (prK D) [] <;> rfl
 rw [e]; exact this
end Go.Proofs.YtlhhhlimjajnlaaGreat.P14
end
