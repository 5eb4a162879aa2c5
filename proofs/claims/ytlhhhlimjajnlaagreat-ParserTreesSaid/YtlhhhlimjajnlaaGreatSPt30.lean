/- Parts of the proof of parserTrees_holds, kept and merged by a program of mine (wip/tools/slim.py) out of my texts: P12a P12b P11d P12c P12d P12e P12f -/
import Derived.Test.YtlhhhlimjajnlaaGreatSPt0
import Derived.Lib.IndexMore
import Derived.Test.YtlhhhlimjajnlaaGreatSPt4
import Derived.Test.YtlhhhlimjajnlaaGreatSPt5
import Derived.Test.YtlhhhlimjajnlaaGreatSPt11
import Derived.Test.YtlhhhlimjajnlaaGreatSPt25
import Derived.Test.YtlhhhlimjajnlaaGreatSPt9
import Derived.Test.YtlhhhlimjajnlaaGreatSPt24
import Derived.Test.YtlhhhlimjajnlaaGreatSPt16
import Derived.Test.YtlhhhlimjajnlaaGreatSPt14
section
set_option linter.unusedVariables false
set_option linter.unusedSimpArgs false
namespace Go.Proofs.YtlhhhlimjajnlaaGreat.P12
open Go Go.RowKit Go.Proofs.YtlhhhlimjajnlaaGreat Go.Proofs.YtlhhhlimjajnlaaGreat.Q Go.Proofs.YtlhhhlimjajnlaaGreatW.PrintWords Go.Proofs.YtlhhhlimjajnlaaGreat.X Go.Proofs.YtlhhhlimjajnlaaGreat.P11
theorem prefix_take (t l : List UInt8) : t.isPrefixOf l = (l.take t.length == t) := by
 rw [Bool.eq_iff_iff, beq_iff_eq, List.isPrefixOf_iff_prefix]
 constructor
 ·rintro ⟨r, rfl⟩; simp
 ·intro h
  refine ⟨l.drop t.length, ?_⟩
  have := List.take_append_drop t.length l
  rw [h] at this; exact this
theorem stands_out (s t : ByteArray) (i : Int) (h0 : 0 ≤ i) (ht : 0 < t.size) (h : ¬ i + t.size ≤ (s.size : Int)) : standsB s i t = false := by
 unfold standsB Lib.hasPrefix
 rw [Bool.eq_false_iff]
 intro hp
 obtain ⟨r, hr⟩ := List.isPrefixOf_iff_prefix.1 hp
 have := congrArg List.length hr
 rw [List.length_append, List.length_drop, ← Lib.size_eq, ← Lib.size_eq] at this
 omega
theorem part_is (s t : ByteArray) (i : Int) (h0 : 0 ≤ i) (h : i + t.size ≤ (s.size : Int)) : ((s.extract i.toNat (i + (t.size : Int)).toNat).toList == t.toList) = standsB s i t := by
 unfold standsB Lib.hasPrefix
 rw [prefix_take, Lib.toList_data, Lib.toList_data, Lib.extract_data, show (i + (t.size : Int)).toNat - i.toNat = t.data.toList.length from by rw [← Lib.size_eq]; omega]
theorem begins_f (s t : ByteArray) (i : Int) (h0 : 0 ≤ i) (hi : i ≤ 4294967296) (ht : 0 < t.size) (hts : t.size ≤ 4294967296) : R2_begins.f s i t = some (standsB s i t) := by
 unfold R2_begins.f
 rw [cwr _ (by omega) (by omega)]
 by_cases h : i + (t.size : Int) ≤ (s.size : Int)
 ·rw [if_pos h, if_pos h0, if_pos (by omega), part_is s t i h0 h]
 ·rw [if_neg h, stands_out s t i h0 ht h]
def findN (l t : List UInt8) (i : Nat) : Int := if Lib.index (l.drop i) t < 0 then -1 else i + Lib.index (l.drop i) t
theorem find_l0 (s t : ByteArray) (hs : s.size ≤ 4294967296) (ht : 0 < t.size) (hts : t.size ≤ 4294967296) (d : Nat) : ∀ (n k : Nat), s.size + 1 - n = d → n ≤ s.size + 1 → d + 1 ≤ k → R2_find.l0 k s t n = some (findN s.data.toList t.data.toList n) := by
 have hsz : s.data.toList.length = s.size := (Lib.size_eq s).symm
 have htl : t.data.toList.length = t.size := (Lib.size_eq t).symm
 have hout : ∀ n : Nat, ¬ n + t.size ≤ s.size → Lib.index (s.data.toList.drop n) t.data.toList = -1 := by
  intro n hn
  by_cases hi : 0 ≤ Lib.index (s.data.toList.drop n) t.data.toList
  ·have := Lib.index_room _ _ hi
   rw [List.length_drop] at this; omega
  ·have := Lib.index_ge (s.data.toList.drop n) t.data.toList; omega
 induction d with
 | zero =>
  intro n k hd hn hk
  obtain ⟨k, rfl⟩ : ∃ j, k = j + 1 := ⟨k - 1, by omega⟩
  unfold R2_find.l0
  rw [cwr _ (by omega) (by omega), if_neg (by omega)]
  unfold findN
  rw [hout n (by omega), if_pos (by omega)]
 | succ d ih =>
  intro n k hd hn hk
  obtain ⟨k, rfl⟩ : ∃ j, k = j + 1 := ⟨k - 1, by omega⟩
  unfold R2_find.l0
  rw [cwr _ (by omega) (by omega)]
  by_cases h : (n : Int) + (t.size : Int) ≤ (s.size : Int)
  ·have hcons := List.drop_eq_getElem_cons (show n < s.data.toList.length by omega)
   have hp := part_is s t n (by omega) h
   rw [if_pos h, if_pos (by omega), if_pos (by omega)]
   have hst : standsB s n t = t.data.toList.isPrefixOf (s.data.toList.drop n) := by unfold standsB Lib.hasPrefix; rw [show ((n : Nat) : Int).toNat = n from by omega]
   rw [hst] at hp
   by_cases hq : t.data.toList.isPrefixOf (s.data.toList.drop n) = true
   ·rw [hq, beq_iff_eq] at hp
    rw [if_pos hp]
    unfold findN
    have : Lib.index (s.data.toList.drop n) t.data.toList = 0 := by
     rw [hcons] at hq ⊢
     show (if _ then _ else _) = _
     rw [if_pos hq]
    rw [this, if_neg (by omega)]; simp
   ·have hp' : ¬ _ := fun e => hq (by rw [← hp, beq_iff_eq]; exact e)
    rw [if_neg hp', cwr _ (by omega) (by omega), show ((n : Nat) : Int) + 1 = ((n + 1 : Nat) : Int) from by omega, ih (n + 1) k (by omega) (by omega) (by omega)]
    unfold findN
    have hx : Lib.index (s.data.toList.drop n) t.data.toList = if Lib.index (s.data.toList.drop (n + 1)) t.data.toList == -1 then -1 else Lib.index (s.data.toList.drop (n + 1)) t.data.toList + 1 := by
     rw [hcons] at hq ⊢
     show (if _ then _ else _) = _
     rw [if_neg hq]
    have hge := Lib.index_ge (s.data.toList.drop (n + 1)) t.data.toList
    rw [hx]
    generalize Lib.index (s.data.toList.drop (n + 1)) t.data.toList = J at hge
    by_cases hm : J = -1
    ·subst hm; rfl
    ·have e1 : (J == -1) = false := beq_eq_false_iff_ne.2 hm
     rw [e1]
     simp only [Bool.false_eq_true, if_false]
     rw [if_neg (show ¬ J < 0 by omega), if_neg (show ¬ J + 1 < 0 by omega)]
     congr 1; omega
  ·rw [if_neg h]
   unfold findN
   rw [hout n (by omega), if_pos (by omega)]
theorem find_f (s t : ByteArray) (i : Int) (h0 : 0 ≤ i) (hi : i ≤ (s.size : Int) + 1) (hs : s.size ≤ 4294967296) (ht : 0 < t.size) (hts : t.size ≤ 4294967296) (k : Nat) (hk : s.size + 2 ≤ k) : R2_find.f k s i t = some (findN s.data.toList t.data.toList i.toNat) := by
 unfold R2_find.f
 have := find_l0 s t hs ht hts (s.size + 1 - i.toNat) i.toNat k rfl (by omega) (by omega)
 rw [show ((i.toNat : Nat) : Int) = i from by omega] at this
 exact this
def decR (t : ByteArray) (l : List UInt8) : ByteArray × Bool := match dec l with
 | some v => (t ++ ⟨v.toArray⟩, true)
 | none => (⟨#[]⟩, false)
theorem app_mk (t : ByteArray) (v u : List UInt8) : t ++ (⟨(v ++ u).toArray⟩ : ByteArray) = (t ++ ⟨v.toArray⟩) ++ ⟨u.toArray⟩ := by
 apply ByteArray.ext; apply Array.ext'
 simp [ByteArray.data_append, List.append_assoc]
theorem decR_map (t : ByteArray) (v : List UInt8) (l u : List UInt8) (h : dec l = (dec u).map (v ++ ·)) : decR t l = decR (t ++ ⟨v.toArray⟩) u := by
 unfold decR
 rw [h]
 cases dec u with
 | none => rfl
 | some w => show (t ++ (⟨(v ++ w).toArray⟩ : ByteArray), true) = _; rw [app_mk]
theorem app_nil (t : ByteArray) : t ++ (⟨([] : List UInt8).toArray⟩ : ByteArray) = t := by
 apply ByteArray.ext; apply Array.ext'
 simp [ByteArray.data_append]
theorem mk_size (v : List UInt8) : (⟨v.toArray⟩ : ByteArray).size = v.length := by simp [ByteArray.size]
theorem decoded_l0 (s : ByteArray) (hs : s.size ≤ 4294967000) (d : Nat) : ∀ (n k : Nat) (t : ByteArray), s.size - n ≤ d → n ≤ s.size → d + 1 ≤ k → t.size ≤ 4 * n → R2_decoded.l0 k s t n = some (decR t (s.data.toList.drop n)) := by
 have hsz : s.data.toList.length = s.size := (Lib.size_eq s).symm
 have hend : ∀ (k : Nat) (t : ByteArray), 1 ≤ k → R2_decoded.l0 k s t s.size = some (decR t (s.data.toList.drop s.size)) := by
  intro k t hk
  obtain ⟨k, rfl⟩ : ∃ j, k = j + 1 := ⟨k - 1, by omega⟩
  unfold R2_decoded.l0
  rw [if_neg (by omega), List.drop_of_length_le (by omega)]
  unfold decR
  rw [dec_nil]
  show some (t, true) = some (t ++ (⟨([] : List UInt8).toArray⟩ : ByteArray), true)
  rw [app_nil]
 induction d with
 | zero =>
  intro n k t hd hn hk ht
  have : n = s.size := by omega
  subst this
  exact hend k t (by omega)
 | succ d ih =>
  intro n k t hd hn hk ht
  by_cases hlt : n < s.size
  ·obtain ⟨k, rfl⟩ : ∃ j, k = j + 1 := ⟨k - 1, by omega⟩
   have hcons := cdrop_cons s n hlt
   obtain ⟨c, hc⟩ : ∃ c, s[n] = c := ⟨_, rfl⟩
   rw [hc] at hcons
   unfold R2_decoded.l0
   rw [if_pos (by omega), if_pos (by omega), bt_get' s n hlt, hc]
   by_cases h38 : c = 38
   ·subst h38
    rw [if_pos (by decide), R1_Entity.f, if_pos (by omega), Option.bind_some, refEnt_eq]
    have hent : entP s.data.toList n = entL (38 :: s.data.toList.drop (n + 1)) := by
     unfold entP; rw [if_pos ⟨by omega, by omega⟩, show ((n : Nat) : Int).toNat = n from by omega, hcons]
    have hok := entL_ok (38 :: s.data.toList.drop (n + 1))
    have hdec := dec_amp (s.data.toList.drop (n + 1))
    have hlen : (38 :: s.data.toList.drop (n + 1)).length = s.size - n := by rw [← hcons, List.length_drop, hsz]
    rw [hlen] at hok
    rw [hent]
    obtain ⟨e, he⟩ : ∃ e, entL (38 :: s.data.toList.drop (n + 1)) = e := ⟨_, rfl⟩
    rw [he] at hok hdec ⊢
    obtain ⟨e1, e2⟩ := e
    simp only at hok hdec ⊢
    by_cases hz : e2 = 0
    ·rw [if_pos hz] at hdec
     rw [if_pos hz, hcons]
     unfold decR
     rw [hdec]
    ·rw [if_neg hz] at hdec
     have hes := mk_size e1
     rw [if_neg hz, if_pos (by omega), cwr _ (by omega) (by omega)]
     obtain ⟨m, hm⟩ : ∃ m : Nat, e2 = (m : Int) := ⟨e2.toNat, by omega⟩
     subst hm
     rw [show ((n : Nat) : Int) + (m : Int) = ((n + m : Nat) : Int) from by omega, ih (n + m) k _ (by omega) (by omega) (by omega) (by rw [ByteArray.size_append]; omega)]
     rw [← hcons, show ((m : Nat) : Int).toNat = m from by omega, List.drop_drop] at hdec
     rw [hcons] at hdec ⊢
     rw [decR_map t e1 _ _ hdec]
   ·have hne : ¬ ((c.toNat : Int) = 38) := fun e => h38 (UInt8.toNat_inj.1 (by show c.toNat = 38; omega))
    have hx : (s.extract n (n + 1)).data.toList = [c] := by
     rw [Lib.extract_data, hcons]; simp
    have hxs : (s.extract n (n + 1)).size = 1 := by rw [Lib.size_eq, hx]; rfl
    have hxe : s.extract n (n + 1) = ⟨[c].toArray⟩ := by apply ByteArray.ext; apply Array.ext'; rw [hx]
    rw [if_neg hne, cwr _ (by omega) (by omega), if_pos (by omega), if_pos (by omega), show ((n : Nat) : Int).toNat = n from by omega, show (((n : Nat) : Int) + 1).toNat = n + 1 from by omega, hxs, if_pos (by omega), show ((n : Nat) : Int) + 1 = ((n + 1 : Nat) : Int) from by omega,
     ih (n + 1) k _ (by omega) (by omega) (by omega) (by rw [ByteArray.size_append, hxs]; omega), hxe, hcons]
    rw [decR_map t [c] (c :: s.data.toList.drop (n + 1)) (s.data.toList.drop (n + 1)) (dec_cons c _ h38)]
  ·have : n = s.size := by omega
   subst this
   exact hend k t (by omega)
theorem decoded_f (s : ByteArray) (hs : s.size ≤ 4294967000) (k : Nat) (hk : s.size + 1 ≤ k) : R2_decoded.f k s = some (decR ⟨#[]⟩ s.data.toList) := by
 have := decoded_l0 s hs s.size 0 k ⟨#[]⟩ (by omega) (by omega) hk (by decide)
 exact this
end Go.Proofs.YtlhhhlimjajnlaaGreat.P12
end
section
set_option linter.unusedVariables false
set_option linter.unusedSimpArgs false
namespace Go.Proofs.YtlhhhlimjajnlaaGreat.P11
open Go Go.RowKit Go.Proofs.YtlhhhlimjajnlaaGreat Go.Proofs.YtlhhhlimjajnlaaGreat.Q Go.Proofs.YtlhhhlimjajnlaaGreatW.PrintWords Go.Proofs.YtlhhhlimjajnlaaGreat.X Go.Proofs.YtlhhhlimjajnlaaGreat.RefE
def lessN (n : Nat) : Int := if n = 2 then 192 else if n = 3 then 224 else if n = 4 then 240 else 0
def codeGo : Int → List UInt8 → Int
 | c, [] => c
 | c, b :: t => codeGo (c * 64 + (b.toNat : Int) - 128) t
def refCode (n : Nat) : List UInt8 → Int
 | [] => 0
 | b :: t => codeGo ((b.toNat : Int) - lessN n) (t.take (n - 1))
theorem refCode_enc (c : Int) (hp : pointB c = true) (t : List UInt8) : refCode (sizeN c).toNat (encL c ++ t) = c := by
 have hb := point_range hp
 unfold encL sizeN
 rw [if_pos hp]
 by_cases h1 : c < 128
 ·rw [if_pos h1, if_pos h1]
  have e0 := byteI_nat c hb.1 (by omega)
  show codeGo ((byteI c).toNat - lessN 1) [] = c
  rw [codeGo, show lessN 1 = 0 from rfl]; omega
 rw [if_neg h1, if_neg h1]
 by_cases h2 : c < 2048
 ·rw [if_pos h2, if_pos h2]
  have e0 := byteI_nat (192 + c / 64) (by omega) (by omega)
  have e1 := byteI_nat (128 + c % 64) (by omega) (by omega)
  show codeGo ((byteI (192 + c / 64)).toNat - lessN 2) [byteI (128 + c % 64)] = c
  rw [codeGo, codeGo, show lessN 2 = 192 from rfl]; omega
 rw [if_neg h2, if_neg h2]
 by_cases h3 : c < 65536
 ·rw [if_pos h3, if_pos h3]
  have e0 := byteI_nat (224 + c / 4096) (by omega) (by omega)
  have e1 := byteI_nat (128 + c / 64 % 64) (by omega) (by omega)
  have e2 := byteI_nat (128 + c % 64) (by omega) (by omega)
  show codeGo ((byteI (224 + c / 4096)).toNat - lessN 3) [byteI (128 + c / 64 % 64), byteI (128 + c % 64)] = c
  rw [codeGo, codeGo, codeGo, show lessN 3 = 224 from rfl]; omega
 rw [if_neg h3, if_neg h3]
 have e0 := byteI_nat (240 + c / 262144) (by omega) (by omega)
 have e1 := byteI_nat (128 + c / 4096 % 64) (by omega) (by omega)
 have e2 := byteI_nat (128 + c / 64 % 64) (by omega) (by omega)
 have e3 := byteI_nat (128 + c % 64) (by omega) (by omega)
 show codeGo ((byteI (240 + c / 262144)).toNat - lessN 4) [byteI (128 + c / 4096 % 64), byteI (128 + c / 64 % 64), byteI (128 + c % 64)] = c
 rw [codeGo, codeGo, codeGo, codeGo, show lessN 4 = 240 from rfl]; omega
def tryN (n : Nat) (l : List UInt8) : Bool := decide (encL (refCode n l) ≠ []) && (encL (refCode n l) == l.take n)
theorem try_yes (n : Nat) (l : List UInt8) (hn : n ≤ l.length) (h : tryN n l = true) : decL l = (refCode n l, (n : Int)) := by
 unfold tryN at h
 simp only [Bool.and_eq_true, decide_eq_true_eq, beq_iff_eq] at h
 obtain ⟨h1, h2⟩ := h
 have hp : pointB (refCode n l) = true := by
  by_cases hp : pointB (refCode n l) = true
  ·exact hp
  ·exact absurd ((enc_nil _).2 (by simpa using hp)) h1
 have hl := enc_len _ hp
 have hd := dec_enc _ hp (l.drop n)
 rw [h2, List.take_append_drop] at hd
 rw [hd]
 congr 1
 rw [← hl, h2, List.length_take]
 omega
theorem try_at (l : List UInt8) (h : ¬ (decL l).2 = 0) : tryN (decL l).2.toNat l = true ∧ 1 ≤ (decL l).2.toNat ∧ (decL l).2.toNat ≤ 4 ∧ (decL l).2.toNat ≤ l.length := by
 obtain ⟨hp, hs, t, ht⟩ := enc_dec l h
 have hr := dec_range l
 have hl := enc_len _ hp
 refine ⟨?_, by omega, by omega, by omega⟩
 have hc : refCode (decL l).2.toNat l = (decL l).1 := by
  have := refCode_enc _ hp t
  rw [← ht, ← hs] at this
  exact this
 unfold tryN
 rw [hc]
 simp only [Bool.and_eq_true, decide_eq_true_eq, beq_iff_eq]
 refine ⟨fun e => ?_, ?_⟩
 ·rw [e] at hl
  have := sizeN_range (decL l).1
  simp at hl; omega
 ·have : l.take (decL l).2.toNat = (encL (decL l).1 ++ t).take (decL l).2.toNat := by rw [← ht]
  rw [this, hs, ← hl, Int.toNat_natCast, List.take_left]
def triesFrom (l : List UInt8) : Nat → Nat → Int × Int
 | 0, _ => (-1, 0)
 | d + 1, n => if n ≤ l.length then (if tryN n l then (refCode n l, (n : Int)) else triesFrom l d (n + 1)) else (-1, 0)
theorem tries_eq (l : List UInt8) : triesFrom l 4 1 = decL l := by
 have hno : ∀ d n, n + d = 5 → (∀ m, 1 ≤ m → m < n → tryN m l = true → ¬ m ≤ l.length) → triesFrom l d n = decL l := by
  intro d
  induction d with
  | zero =>
   intro n hn h
   rw [triesFrom]
   by_cases h0 : (decL l).2 = 0
   ·exact (dec_none l h0).symm
   ·obtain ⟨a, b, c, e⟩ := try_at l h0
    exact absurd e (h _ b (by omega) a)
  | succ d ih =>
   intro n hn h
   rw [triesFrom]
   by_cases hl : n ≤ l.length
   ·rw [if_pos hl]
    by_cases ht : tryN n l = true
    ·rw [if_pos ht]
     exact (try_yes n l hl ht).symm
    ·rw [if_neg ht]
     refine ih (n + 1) (by omega) fun m h1 h2 h3 => ?_
     by_cases hm : m = n
     ·subst hm; exact absurd h3 ht
     ·exact h m h1 (by omega) h3
   ·rw [if_neg hl]
    by_cases h0 : (decL l).2 = 0
    ·exact (dec_none l h0).symm
    ·obtain ⟨a, b, c, e⟩ := try_at l h0
     by_cases hm : (decL l).2.toNat < n
     ·exact absurd e (h _ b hm a)
     ·omega
 exact hno 4 1 rfl fun m h1 h2 => by omega
theorem code_bound : ∀ (t : List UInt8) (c : Int), t.length ≤ 3 → -1000 ≤ c → c ≤ 1000 → -300000000 ≤ codeGo c t ∧ codeGo c t ≤ 300000000 := by
 intro t c h h0 h1
 match t, h with
 | [], _ => rw [codeGo]; omega
 | [x], _ => have := x.toNat_lt; rw [codeGo, codeGo]; omega
 | [x, y], _ => have := x.toNat_lt; have := y.toNat_lt; rw [codeGo, codeGo, codeGo]; omega
 | [x, y, z], _ => have := x.toNat_lt; have := y.toNat_lt; have := z.toNat_lt; rw [codeGo, codeGo, codeGo, codeGo]; omega
def endOf (k : Nat) (s : ByteArray) (a n : Nat) (code : Int) : Option (Int × Int) :=
 if encL code = [] then R1_Rune.l0 k s a ((n : Int) + 1) else if encL code = (s.data.toList.drop a).take n then some (code, (n : Int)) else R1_Rune.l0 k s a ((n : Int) + 1)
theorem rune_l1 (s : ByteArray) (a n : Nat) (hs : s.size ≤ 4294967296) (hn : n ≤ 4) (ha : a + n ≤ s.size) (d : Nat) : ∀ (i k : Nat) (c : Int), i + d = n → 1 ≤ i → i ≤ 4 → -300000000 ≤ c → c ≤ 300000000 →
 (∀ j, j ≤ d → -300000000 ≤ codeGo c ((s.data.toList.drop (a + i)).take j) ∧ codeGo c ((s.data.toList.drop (a + i)).take j) ≤ 300000000) →
 R1_Rune.l1 (k + d + 1) s a n c i = endOf k s a n (codeGo c ((s.data.toList.drop (a + i)).take d)) := by
 induction d with
 | zero =>
  intro i k c hi h1 h4 hc0 hc1 hall
  rw [R1_Rune.l1, if_neg (by omega), encode_f, Option.bind_some, List.take_zero, codeGo, Lib.toList_data]
  unfold endOf
  have hdat : (⟨(encL c).toArray⟩ : ByteArray).data.toList = encL c := rfl
  rw [hdat, wr ((n : Int) + 1) (by omega) (by omega)]
  by_cases he : encL c = []
  ·rw [if_pos he, if_pos he]
  rw [if_neg he, if_neg he, if_pos (by omega), wr ((a : Int) + (n : Int)) (by omega) (by omega), if_pos (by omega), if_pos (by omega), Lib.extract_toList, Int.toNat_natCast, show ((a : Int) + (n : Int)).toNat - a = n from by omega]
 | succ d ih =>
  intro i k c hi h1 h4 hc0 hc1 hall
  have hlt : a + i < s.size := by omega
  rw [show k + (d + 1) + 1 = (k + d + 1) + 1 from by omega, R1_Rune.l1, if_pos (by omega)]
  have hw : wrap64 ((a : Int) + (i : Int)) = ((a + i : Nat) : Int) := by rw [wr _ (by omega) (by omega)]; omega
  rw [hw, if_pos (by omega), if_pos (by omega), if_neg (by omega), bt_get s _ hlt, drop_cons s _ hlt, List.take_succ_cons, codeGo]
  obtain ⟨x, hx⟩ : ∃ x, s[a + i] = x := ⟨_, rfl⟩
  rw [hx]
  have hxl := x.toNat_lt
  have hall' : ∀ j, j ≤ d → -300000000 ≤ codeGo (c * 64 + (x.toNat : Int) - 128) ((s.data.toList.drop (a + i + 1)).take j) ∧ codeGo (c * 64 + (x.toNat : Int) - 128) ((s.data.toList.drop (a + i + 1)).take j) ≤ 300000000 := by
   intro j hj
   have := hall (j + 1) (by omega)
   rw [drop_cons s _ hlt, List.take_succ_cons, codeGo, hx] at this
   exact this
  have h0 := hall' 0 (by omega)
  rw [List.take_zero, codeGo] at h0
  rw [wr (c * 64) (by omega) (by omega), wr (x.toNat : Int) (by omega) (by omega), wr (c * 64 + (x.toNat : Int)) (by omega) (by omega), wr (c * 64 + (x.toNat : Int) - 128) (by omega) (by omega), wr ((i : Int) + 1) (by omega) (by omega)]
  have := ih (i + 1) k (c * 64 + (x.toNat : Int) - 128) (by omega) (by omega) (by omega) h0.1 h0.2 hall'
  rw [show ((i + 1 : Nat) : Int) = (i : Int) + 1 from by omega, show a + (i + 1) = a + i + 1 from by omega] at this
  exact this
theorem rune_try (s : ByteArray) (a n : Nat) (hs : s.size ≤ 4294967296) (h1 : 1 ≤ n) (hn : n ≤ 4) (ha : a + n ≤ s.size) (k : Nat) :
 R1_Rune.l1 (k + n + 2) s a n 0 0 = endOf k s a n (refCode n (s.data.toList.drop a)) := by
 have hlt : a < s.size := by omega
 rw [R1_Rune.l1, if_pos (by omega)]
 have hw : wrap64 ((a : Int) + 0) = (a : Int) := by rw [wr _ (by omega) (by omega)]; omega
 rw [hw, if_pos (by omega), if_pos (by omega), if_pos rfl, bt_get s _ hlt, drop_cons s _ hlt]
 obtain ⟨x, hx⟩ : ∃ x, s[a] = x := ⟨_, rfl⟩
 rw [hx]
 have hxl := x.toNat_lt
 rw [wr (x.toNat : Int) (by omega) (by omega)]
 have hless : 0 ≤ lessN n ∧ lessN n ≤ 240 := by unfold lessN; repeat' split <;> omega
 have hj : ∀ y : Int, (n ≠ 3 → n ≠ 4 → y = lessN n) → R1_Rune.j4 (k + n + 1) s a n 0 (x.toNat : Int) y = R1_Rune.l1 (k + n) s a n ((x.toNat : Int) - lessN n) 1 := by
  intro y hy
  rw [R1_Rune.j4]
  by_cases h3 : n = 3
  ·subst h3
   rw [if_pos (by omega), if_neg (by omega), wr _ (by omega) (by omega), wr _ (by omega) (by omega)]
   rfl
  ·rw [if_neg (by omega)]
   by_cases h4 : n = 4
   ·subst h4
    rw [if_pos (by omega), wr _ (by omega) (by omega), wr _ (by omega) (by omega)]
    rfl
   ·rw [if_neg (by omega), hy h3 h4, wr _ (by omega) (by omega), wr _ (by omega) (by omega)]
    rfl
 have hfin : R1_Rune.l1 (k + n) s a n ((x.toNat : Int) - lessN n) 1 = endOf k s a n (refCode n (x :: s.data.toList.drop (a + 1))) := by
  have hb : ∀ j, j ≤ n - 1 → -300000000 ≤ codeGo ((x.toNat : Int) - lessN n) ((s.data.toList.drop (a + 1)).take j) ∧ codeGo ((x.toNat : Int) - lessN n) ((s.data.toList.drop (a + 1)).take j) ≤ 300000000 :=
   fun j hj => code_bound _ _ (by rw [List.length_take]; omega) (by omega) (by omega)
  have := rune_l1 s a n hs hn ha (n - 1) 1 k ((x.toNat : Int) - lessN n) (by omega) (by omega) (by omega) (by omega) (by omega) hb
  rw [show k + (n - 1) + 1 = k + n from by omega] at this
  exact this
 by_cases h2 : n = 2
 ·subst h2
  rw [if_pos (by rfl), hj 192 (fun _ _ => rfl), hfin]
 ·rw [if_neg (by omega), hj 0 (fun h3 h4 => by unfold lessN; rw [if_neg h2, if_neg h3, if_neg h4]), hfin]
theorem rune_l0 (s : ByteArray) (a : Nat) (hs : s.size ≤ 4294967296) (ha : a < s.size) (d : Nat) : ∀ (n k : Nat), n + d = 5 → 1 ≤ n → 10 * d + 2 ≤ k →
 R1_Rune.l0 k s a n = some (triesFrom (s.data.toList.drop a) d n) := by
 have hlen : (s.data.toList.drop a).length = s.size - a := by rw [List.length_drop, len_data]
 induction d with
 | zero =>
  intro n k hn h1 hk
  obtain ⟨k, rfl⟩ : ∃ m, k = m + 2 := ⟨k - 2, by omega⟩
  rw [R1_Rune.l0, if_neg (by omega), R1_Rune.j2, if_neg (by decide), triesFrom]
 | succ d ih =>
  intro n k hn h1 hk
  obtain ⟨k, rfl⟩ : ∃ m, k = m + n + 4 := ⟨k - n - 4, by omega⟩
  rw [R1_Rune.l0, if_pos (by omega), wr ((s.size : Int) - (a : Int)) (by omega) (by omega), triesFrom]
  by_cases hl : n ≤ (s.data.toList.drop a).length
  ·rw [if_pos hl, show decide ((n : Int) ≤ (s.size : Int) - (a : Int)) = true from by simp; omega, R1_Rune.j2, if_pos rfl, rune_try s a n hs h1 (by omega) (by omega)]
   unfold endOf
   have hr := ih (n + 1) k (by omega) (by omega) (by omega)
   rw [show ((n + 1 : Nat) : Int) = (n : Int) + 1 from by omega] at hr
   by_cases he : encL (refCode n (s.data.toList.drop a)) = []
   ·have ht : tryN n (s.data.toList.drop a) = false := by unfold tryN; simp [he]
    rw [if_pos he, ht, hr]; rfl
   ·rw [if_neg he]
    by_cases he2 : encL (refCode n (s.data.toList.drop a)) = (s.data.toList.drop a).take n
    ·have ht : tryN n (s.data.toList.drop a) = true := by unfold tryN; simp [he, ← he2]
     rw [if_pos he2, ht]; rfl
    ·have ht : tryN n (s.data.toList.drop a) = false := by unfold tryN; simp [he2]
     rw [if_neg he2, ht, hr]; rfl
  ·rw [if_neg hl, show decide ((n : Int) ≤ (s.size : Int) - (a : Int)) = false from by simp; omega, R1_Rune.j2, if_neg (by decide)]
theorem ref_rune_f (s : ByteArray) (a : Int) (hs : s.size ≤ 4294967296) (k : Nat) : R1_Rune.f (k + 43) s a = some (runeP s.data.toList a) := by
 have hl := len_data s
 unfold R1_Rune.f runeP
 by_cases h0 : a < 0
 ·rw [if_pos h0, R1_Rune.j0, if_pos rfl, if_neg (by omega)]
 rw [if_neg h0]
 by_cases h1 : a ≥ (s.size : Int)
 ·rw [show decide (a ≥ (s.size : Int)) = true from by simpa using h1, R1_Rune.j0, if_pos rfl, if_neg (by omega)]
 ·obtain ⟨n, rfl⟩ := Int.eq_ofNat_of_zero_le (by omega : 0 ≤ a)
  rw [show decide ((n : Int) ≥ (s.size : Int)) = false from by simpa using h1, R1_Rune.j0, if_neg (by decide), if_pos (by omega), Int.toNat_natCast]
  have := rune_l0 s n hs (by omega) 4 1 (k + 42) rfl (by omega) (by omega)
  rw [tries_eq] at this
  exact this
theorem ref_valid_l0 (s : ByteArray) (hs : s.size ≤ 4294967296) (d : Nat) : ∀ (n k : Nat), s.size - n = d → n ≤ s.size → d + 50 ≤ k → R1_Valid.l0 k s n = some (validL (s.data.toList.drop n)) := by
 induction d using Nat.strongRecOn with
 | ind d ih =>
  intro n k hd hn hk
  obtain ⟨k, rfl⟩ : ∃ m, k = m + 1 := ⟨k - 1, by omega⟩
  rw [R1_Valid.l0]
  by_cases hlt : n < s.size
  ·rw [if_pos (by omega), show k = (k - 43) + 43 from by omega, ref_rune_f s n hs, Option.bind_some, allowed_f, Option.bind_some, valid_at s n hlt]
   have hp : runeP s.data.toList (n : Int) = decL (s.data.toList.drop n) := by
    unfold runeP
    rw [if_pos ⟨by omega, by rw [len_data]; omega⟩, Int.toNat_natCast]
   have hr := dec_range (s.data.toList.drop n)
   rw [← hp, List.length_drop, len_data] at hr
   by_cases h0 : (runeP s.data.toList (n : Int)).2 = 0
   ·rw [if_pos h0, h0]; rfl
   ·rw [if_neg h0, show decide (0 < (runeP s.data.toList (n : Int)).2) = true from by simp; omega, Bool.true_and]
    by_cases ha : allowedB (runeP s.data.toList (n : Int)).1 = true
    ·rw [if_pos ha, ha, Bool.true_and, wr _ (by omega) (by omega), show (n : Int) + (runeP s.data.toList (n : Int)).2 = ((n + (runeP s.data.toList (n : Int)).2.toNat : Nat) : Int) from by omega]
     exact ih _ (by omega) _ _ rfl (by omega) (by omega)
    ·rw [if_neg ha, show allowedB (runeP s.data.toList (n : Int)).1 = false from by simpa using ha]; rfl
  ·rw [if_neg (by omega), List.drop_of_length_le (by rw [len_data]; omega)]; rfl
theorem ref_valid_f (s : ByteArray) (hs : s.size ≤ 4294967296) (k : Nat) : R1_Valid.f (s.size + 50 + k) s = some (validL s.data.toList) :=
 ref_valid_l0 s hs s.size 0 _ (by omega) (by omega) (by omega)
theorem nat_of_bt (s : ByteArray) (n : Nat) (h : n < s.size) (c : UInt8) (hc : s[n] = c) : bt s (n : Int) = (c.toNat : Int) := by rw [bt_get s n h, hc]
theorem ref_space_f (c : UInt8) : R1_Space.f (c.toNat : Int) = some (spaceB c) := by
 unfold R1_Space.f spaceB
 repeat' split
 all_goals
  congr 1
  rw [Bool.eq_iff_iff]
  simp
  omega
theorem ref_skip_l0 (s : ByteArray) (hs : s.size ≤ 4294967296) (d : Nat) : ∀ (n k : Nat), s.size - n = d → n ≤ s.size → 2 * d + 2 ≤ k → R1_Skip.l0 k s n = some ((n : Int) + ((s.data.toList.drop n).takeWhile spaceB).length) := by
 induction d with
 | zero =>
  intro n k hd hn hk
  obtain ⟨k, rfl⟩ : ∃ m, k = m + 2 := ⟨k - 2, by omega⟩
  rw [R1_Skip.l0, if_pos (by omega), show decide ((n : Int) < (s.size : Int)) = false from by simp; omega, R1_Skip.j1, if_neg (by decide), List.drop_of_length_le (by rw [len_data]; omega)]
  simp
 | succ d ih =>
  intro n k hd hn hk
  obtain ⟨k, rfl⟩ : ∃ m, k = m + 2 := ⟨k - 2, by omega⟩
  have hlt : n < s.size := by omega
  rw [R1_Skip.l0, if_pos (by omega), show decide ((n : Int) < (s.size : Int)) = true from by simp; omega, R1_Skip.j1, if_pos rfl, if_pos (by omega), if_pos (by omega), drop_cons s n hlt]
  obtain ⟨c, hc⟩ : ∃ c, s[n] = c := ⟨_, rfl⟩
  rw [nat_of_bt s n hlt c hc, ref_space_f, Option.bind_some, hc]
  by_cases h : spaceB c = true
  ·rw [if_pos h, List.takeWhile_cons_of_pos h, wr _ (by omega) (by omega)]
   have := ih (n + 1) k (by omega) (by omega) (by omega)
   rw [show ((n + 1 : Nat) : Int) = (n : Int) + 1 from by omega] at this
   rw [this, List.length_cons]
   congr 1
   omega
  ·rw [if_neg h, List.takeWhile_cons_of_neg h]
   simp
theorem ref_skip_f (s : ByteArray) (a : Int) (hs : s.size ≤ 4294967296) (k : Nat) : R1_Skip.f (2 * s.size + 2 + k) s a = some (skipP s.data.toList a) := by
 unfold R1_Skip.f skipP
 have hl := len_data s
 by_cases h0 : 0 ≤ a ∧ a ≤ s.size
 ·obtain ⟨n, rfl⟩ := Int.eq_ofNat_of_zero_le h0.1
  rw [ref_skip_l0 s hs (s.size - n) n _ rfl (by omega) (by omega), Int.toNat_natCast]
  by_cases h1 : (n : Int) < (s.data.toList.length : Int)
  ·rw [if_pos ⟨h0.1, h1⟩]
  ·rw [if_neg (fun h => h1 h.2), List.drop_of_length_le (by omega)]
   simp
 ·rw [if_neg (by omega)]
  rw [show 2 * s.size + 2 + k = (2 * s.size + k) + 2 from by omega, R1_Skip.l0]
  by_cases h2 : a ≥ 0
  ·rw [if_pos h2, show decide (a < (s.size : Int)) = false from by simp; omega, R1_Skip.j1, if_neg (by decide)]
  ·rw [if_neg h2, R1_Skip.j1, if_neg (by decide)]
set_option maxHeartbeats 4000000 in
theorem ref_name_step (s : ByteArray) (a : Int) (n : Nat) (hs : s.size ≤ 4294967296) (hlt : n < s.size) (c : UInt8) (hc : s[n] = c) (k : Nat) :
 R1_NameEnd.l0 (k + 2) s a n = if nameB c = true ∨ (moreB c = true ∧ (n : Int) ≠ a) then R1_NameEnd.l0 k s a ((n + 1 : Nat) : Int) else some (n : Int) := by
 have hw : wrap64 ((n : Int) + 1) = ((n + 1 : Nat) : Int) := by rw [wr _ (by omega) (by omega)]; omega
 rw [R1_NameEnd.l0, if_pos (by omega), show decide ((n : Int) < (s.size : Int)) = true from by simp; omega, R1_NameEnd.j1, if_pos rfl, if_pos (by omega), if_pos (by omega), nat_of_bt s n hlt c hc, hw]
 have hcl := c.toNat_lt
 unfold nameB moreB
 simp only [decide_eq_true_eq]
 generalize R1_NameEnd.l0 k s a ((n + 1 : Nat) : Int) = A
 generalize c.toNat = v at *
 clear hw hc hs hlt
 repeat' (first | (exfalso; omega) | split)
 all_goals rfl
theorem ref_name_l0 (s : ByteArray) (a : Int) (hs : s.size ≤ 4294967296) (d : Nat) : ∀ (n k : Nat), s.size - n = d → n ≤ s.size → a < n → 2 * d + 2 ≤ k → R1_NameEnd.l0 k s a n = some ((n : Int) + ((s.data.toList.drop n).takeWhile fun c => nameB c || moreB c).length) := by
 induction d with
 | zero =>
  intro n k hd hn ha hk
  obtain ⟨k, rfl⟩ : ∃ m, k = m + 2 := ⟨k - 2, by omega⟩
  rw [R1_NameEnd.l0, if_pos (by omega), show decide ((n : Int) < (s.size : Int)) = false from by simp; omega, R1_NameEnd.j1, if_neg (by decide), List.drop_of_length_le (by rw [len_data]; omega)]
  simp
 | succ d ih =>
  intro n k hd hn ha hk
  obtain ⟨k, rfl⟩ : ∃ m, k = m + 2 := ⟨k - 2, by omega⟩
  have hlt : n < s.size := by omega
  obtain ⟨c, hc⟩ : ∃ c, s[n] = c := ⟨_, rfl⟩
  rw [ref_name_step s a n hs hlt c hc, drop_cons s n hlt, hc]
  by_cases h : (nameB c || moreB c) = true
  ·rw [List.takeWhile_cons_of_pos (p := fun c => nameB c || moreB c) h, if_pos (by
    simp only [Bool.or_eq_true] at h
    exact h.imp_right fun h => ⟨h, by omega⟩), ih (n + 1) k (by omega) (by omega) (by omega) (by omega), List.length_cons]
   congr 1
   omega
  ·rw [List.takeWhile_cons_of_neg (p := fun c => nameB c || moreB c) h, if_neg (fun h' => h (by
    simp only [Bool.or_eq_true]
    exact h'.imp_right fun h => h.1))]
   simp
theorem ref_name_f (s : ByteArray) (a : Int) (hs : s.size ≤ 4294967296) (k : Nat) : R1_NameEnd.f (2 * s.size + 2 + k) s a = some (nameEndP s.data.toList a) := by
 unfold R1_NameEnd.f nameEndP
 have hl := len_data s
 by_cases h0 : 0 ≤ a ∧ a < s.size
 ·obtain ⟨n, rfl⟩ := Int.eq_ofNat_of_zero_le h0.1
  have hlt : n < s.size := by omega
  obtain ⟨c, hc⟩ : ∃ c, s[n] = c := ⟨_, rfl⟩
  rw [if_pos ⟨h0.1, by omega⟩, Int.toNat_natCast, show 2 * s.size + 2 + k = (2 * s.size + k) + 2 from by omega, ref_name_step s n n hs hlt c hc, drop_cons s n hlt, hc]
  simp only [nameLen]
  by_cases hn : nameB c = true
  ·rw [if_pos (.inl hn), if_pos hn, ref_name_l0 s n hs (s.size - (n + 1)) (n + 1) _ rfl (by omega) (by omega) (by omega)]
   congr 1
   omega
  ·rw [if_neg (by simp [hn]), if_neg hn]
   simp
 ·rw [if_neg (by omega), show 2 * s.size + 2 + k = (2 * s.size + k) + 2 from by omega, R1_NameEnd.l0]
  by_cases h2 : a ≥ 0
  ·rw [if_pos h2, show decide (a < (s.size : Int)) = false from by simp; omega, R1_NameEnd.j1, if_neg (by decide)]
  ·rw [if_neg h2, R1_NameEnd.j1, if_neg (by decide)]
end Go.Proofs.YtlhhhlimjajnlaaGreat.P11
end
section
set_option linter.unusedVariables false
set_option linter.unusedSimpArgs false
namespace Go.Proofs.YtlhhhlimjajnlaaGreat.P12
open Go Go.RowKit Go.Proofs.YtlhhhlimjajnlaaGreat Go.Proofs.YtlhhhlimjajnlaaGreat.Q Go.Proofs.YtlhhhlimjajnlaaGreatW.PrintWords Go.Proofs.YtlhhhlimjajnlaaGreat.X Go.Proofs.YtlhhhlimjajnlaaGreat.P11
theorem cut_find (l t : List UInt8) (i : Nat) : (Lib.cut (l.drop i) t).2.2 = decide (0 ≤ findN l t i) ∧ (0 ≤ findN l t i → findN l t i = i + ((Lib.cut (l.drop i) t).1.length : Int) ∧ (Lib.cut (l.drop i) t).1 = (l.drop i).take (findN l t i - i).toNat) := by
 unfold findN Lib.cut
 have hle := Lib.index_le (l.drop i) t
 by_cases h : 0 ≤ Lib.index (l.drop i) t
 ·rw [if_pos h, if_neg (by omega)]
  refine ⟨by rw [decide_eq_true (by omega)], fun _ => ⟨?_, ?_⟩⟩
  ·show _ = (i : Int) + (((l.drop i).take _).length : Int)
   rw [List.length_take]; omega
  ·show (l.drop i).take _ = (l.drop i).take _
   congr 1; omega
 ·rw [if_neg h, if_pos (by omega)]
  exact ⟨by rw [decide_eq_false (by omega)], fun h => by omega⟩
def AttrSame (r : Int × Int × Int × ByteArray × ByteArray × Bool) (p : Option (List Tok × Int)) : Prop := match p with
 | some (new, a') => new = [⟨r.1, r.2.1, r.2.2.1, r.2.2.2.1, r.2.2.2.2.1⟩] ∧ r.2.2.2.2.2 = true ∧ a' = r.2.2.1
 | none => r.2.2.2.2.2 = false
theorem skip_at (s : ByteArray) (a : Int) (hs : s.size ≤ 65536) (k : Nat) (hk : 200000 ≤ k) : R1_Skip.f k s a = some (skipP s.data.toList a) := by
 obtain ⟨j, rfl⟩ : ∃ j, k = 2 * s.size + 2 + j := ⟨k - (2 * s.size + 2), by omega⟩
 exact ref_skip_f s a (by omega) j
theorem name_at (s : ByteArray) (a : Int) (hs : s.size ≤ 65536) (k : Nat) (hk : 200000 ≤ k) : R1_NameEnd.f k s a = some (nameEndP s.data.toList a) := by
 obtain ⟨j, rfl⟩ : ∃ j, k = 2 * s.size + 2 + j := ⟨k - (2 * s.size + 2), by omega⟩
 exact ref_name_f s a (by omega) j
theorem attr_f (s : ByteArray) (a : Int) (hs : s.size ≤ 65536) (h0 : 0 ≤ a) (h1 : a ≤ (s.size : Int)) (k : Nat) (hk : 300000 ≤ k) : ∃ r, R2_attr.f k s a = some r ∧ AttrSame r (attrP s a) := by
 have hsz : s.data.toList.length = s.size := (Lib.size_eq s).symm
 unfold R2_attr.f attrP
 obtain ⟨F, hF⟩ : ∃ F, skipP s.data.toList a = F := ⟨_, rfl⟩
 obtain ⟨E, hE⟩ : ∃ E, nameEndP s.data.toList F = E := ⟨_, rfl⟩
 obtain ⟨Q, hQ⟩ : ∃ Q, skipP s.data.toList E = Q := ⟨_, rfl⟩
 obtain ⟨O, hO⟩ : ∃ O, skipP s.data.toList (Q + 1) = O := ⟨_, rfl⟩
 have hF1 := skipP_in s.data.toList a (by omega) (by omega)
 rw [hF] at hF1
 have hE1 := nameEndP_in s.data.toList F (by omega) (by omega)
 rw [hE] at hE1
 have hQ1 := skipP_in s.data.toList E (by omega) (by omega)
 rw [hQ] at hQ1
 rw [skip_at s a hs k (by omega), Option.bind_some, hF, name_at s F hs k (by omega), Option.bind_some, hE]
 simp only [hF, hE, hQ, hO]
 obtain ⟨k, rfl⟩ : ∃ j, k = j + 2 := ⟨k - 2, by omega⟩
 by_cases c1 : F = a
 ·rw [if_pos c1, if_pos c1, R2_attr.j0, if_pos rfl]
  exact ⟨_, rfl, rfl⟩
 rw [if_neg c1, if_neg c1]
 by_cases c2 : E = F
 ·rw [if_pos c2, c2, beq_self_eq_true, R2_attr.j0, if_pos rfl]
  exact ⟨_, rfl, rfl⟩
 rw [if_neg c2, beq_eq_false_iff_ne.2 c2, R2_attr.j0, if_neg (by decide), skip_at s E hs (k + 1) (by omega), Option.bind_some, hQ, begins_f s ⟨#[61]⟩ Q (by omega) (by omega) (by decide) (by decide), Option.bind_some]
 by_cases c3 : standsB s Q ⟨#[61]⟩ = false
 ·rw [if_pos c3, if_neg (by rw [c3]; decide)]
  exact ⟨_, rfl, rfl⟩
 have c3' : standsB s Q ⟨#[61]⟩ = true := by simpa using c3
 have hr1 := stands_room s Q 61 (by omega) c3'
 have hO1 := skipP_in s.data.toList (Q + 1) (by omega) (by omega)
 rw [hO] at hO1
 rw [if_neg c3, if_pos c3', cwr _ (by omega) (by omega), skip_at s (Q + 1) hs (k + 1) (by omega), Option.bind_some, hO, begins_f s ⟨#[34]⟩ O (by omega) (by omega) (by decide) (by decide), Option.bind_some, begins_f s ⟨#[39]⟩ O (by omega) (by omega) (by decide) (by decide), Option.bind_some]
 by_cases c4 : standsB s O ⟨#[34]⟩ = false ∧ standsB s O ⟨#[39]⟩ = false
 ·rw [if_pos c4, if_neg (by rw [c4.1]; decide), c4.2, R2_attr.j1, if_pos (by rfl)]
  exact ⟨_, rfl, rfl⟩
 have hO2 : O < (s.size : Int) := by
  by_cases c : standsB s O ⟨#[34]⟩ = true
  ·exact stands_room s O 34 (by omega) c
  ·by_cases c' : standsB s O ⟨#[39]⟩ = true
   ·exact stands_room s O 39 (by omega) c'
   ·exact absurd ⟨by simpa using c, by simpa using c'⟩ c4
 have hj : (if standsB s O ⟨#[34]⟩ = true then R2_attr.j1 (k + 1) s F E O false else R2_attr.j1 (k + 1) s F E O (!standsB s O ⟨#[39]⟩)) = R2_attr.j1 (k + 1) s F E O false := by
  by_cases c : standsB s O ⟨#[34]⟩ = true
  ·rw [if_pos c]
  ·have c' : standsB s O ⟨#[39]⟩ = true := by
    by_cases c' : standsB s O ⟨#[39]⟩ = true
    ·exact c'
    ·exact absurd ⟨by simpa using c, by simpa using c'⟩ c4
   rw [if_neg c, c']; rfl
 rw [if_neg c4, hj, R2_attr.j1, if_neg (by decide), cwr _ (by omega) (by omega), if_pos (by omega), if_pos (by omega), if_pos (by omega)]
 obtain ⟨Z, hZ⟩ : ∃ Z, s.extract O.toNat (O + 1).toNat = Z := ⟨_, rfl⟩
 have hZ' : partB s O (O + 1) = Z := hZ
 have hZs : Z.size = 1 := by rw [Lib.size_eq, ← hZ, Lib.extract_data, List.length_take, List.length_drop]; omega
 rw [hZ, hZ', find_f s Z (O + 1) (by omega) (by omega) (by omega) (by omega) (by omega) k (by omega), Option.bind_some]
 have hcf := cut_find s.data.toList Z.data.toList (O + 1).toNat
 obtain ⟨T, hT⟩ : ∃ T, findN s.data.toList Z.data.toList (O + 1).toNat = T := ⟨_, rfl⟩
 obtain ⟨c, hc⟩ : ∃ c, Lib.cut (s.data.toList.drop (O + 1).toNat) Z.data.toList = c := ⟨_, rfl⟩
 rw [hT, hc] at hcf
 rw [hT, hc]
 by_cases c5 : T < 0
 ·have e5 : c.2.2 = false := by rw [hcf.1, decide_eq_false (by omega)]
  rw [if_pos c5, if_pos e5]
  exact ⟨_, rfl, rfl⟩
 obtain ⟨hT1, hc1⟩ := hcf.2 (by omega)
 have hcl : (c.1.length : Int) ≤ (s.size : Int) - (O + 1) := by
  rw [hc1, List.length_take, List.length_drop]; omega
 have hraw : (s.extract (O + 1).toNat T.toNat).data.toList = c.1 := by
  rw [Lib.extract_data, hc1]; congr 1; omega
 obtain ⟨R, hR⟩ : ∃ R, s.extract (O + 1).toNat T.toNat = R := ⟨_, rfl⟩
 rw [hR] at hraw
 have hRs : R.size ≤ s.size := by rw [Lib.size_eq, hraw]; omega
 have e5 : ¬ c.2.2 = false := by rw [hcf.1, decide_eq_true (by omega)]; decide
 rw [if_neg c5, if_neg e5, if_pos (by omega), if_pos (by omega), if_pos (by omega), hR, find_f R ⟨#[60]⟩ 0 (by omega) (by omega) (by omega) (by decide) (by decide) k (by omega), Option.bind_some]
 have hfi : (findN R.data.toList (⟨#[60]⟩ : ByteArray).data.toList (0 : Int).toNat ≥ 0) ↔ 0 ≤ Lib.indexByte c.1 60 := by
  unfold findN
  have : Lib.index (R.data.toList.drop (0 : Int).toNat) (⟨#[60]⟩ : ByteArray).data.toList = Lib.indexByte c.1 60 := by
   show Lib.index (R.data.toList.drop 0) [60] = _
   rw [List.drop_zero, Lib.index_one, hraw]
  rw [this]
  split
  ·omega
  ·constructor <;> intro _ <;> omega
 by_cases c6 : 0 ≤ Lib.indexByte c.1 60
 ·rw [if_pos (hfi.2 c6), if_pos c6]
  exact ⟨_, rfl, rfl⟩
 rw [if_neg (fun h => c6 (hfi.1 h)), if_neg c6, decoded_f R (by omega) k (by omega), Option.bind_some, if_pos (by omega), if_pos (by omega), if_pos (by omega)]
 refine ⟨_, rfl, ?_⟩
 unfold decR
 rw [hraw]
 cases hd : dec c.1 with
 | none => rfl
 | some v =>
  have hTw : wrap64 (T + 1) = T + 1 := cwr _ (by omega) (by omega)
  have hv : (⟨#[]⟩ : ByteArray) ++ (⟨v.toArray⟩ : ByteArray) = ⟨v.toArray⟩ := by
   apply ByteArray.ext; apply Array.ext'; simp [ByteArray.data_append]
  refine ⟨?_, rfl, ?_⟩
  ·show [_] = [(⟨2, F, wrap64 (T + 1), _, _⟩ : Tok)]
   rw [hTw, show T + 1 = O + (c.1.length : Int) + 2 from by omega]
   show [_] = [(⟨2, F, _, partB s F E, (⟨#[]⟩ : ByteArray) ++ (⟨v.toArray⟩ : ByteArray)⟩ : Tok)]
   rw [hv]
  ·show _ = wrap64 (T + 1)
   rw [hTw]; omega
def PieceSame (r : List Tok × Bool) (p : Option (List Tok × Int)) : Prop := match p with
 | some (new, a') => r = (new, true) ∧ ∃ t, new.getLast? = some t ∧ t.f2 = a'
 | none => r.2 = false
theorem rd_last (l : List Tok) (t : Tok) (h : (l ++ [t]).length ≤ 4294967296) : rd_T51 (l ++ [t]) (wrap64 (((l ++ [t]).length : Int) - 1)) = t := by
 rw [List.length_append, List.length_singleton] at h ⊢
 rw [cwr _ (by omega) (by omega)]
 unfold rd_T51
 rw [show (((l.length + 1 : Nat) : Int) - 1).toNat = l.length from by omega]
 simp
theorem tag_l0 (s : ByteArray) (hs : s.size ≤ 65536) (n : Nat) : ∀ (a : Int) (l : List Tok) (t : Tok) (k : Nat), t.f2 = a → 0 ≤ a → a ≤ (s.size : Int) → ((l ++ [t]).length : Int) ≤ a → (s.size : Int) - a < n → 400000 + n ≤ k →
 ∃ r, R2_tag.l0 k s (l ++ [t]) = some r ∧ PieceSame r (attrsF s n a (l ++ [t])) := by
 induction n with
 | zero => intro a l t k _ _ h1 _ h2 _; omega
 | succ n ih =>
  intro a l t k ht h0 h1 hl hn hk
  have hsz : s.data.toList.length = s.size := (Lib.size_eq s).symm
  obtain ⟨k, rfl⟩ : ∃ j, k = j + 1 := ⟨k - 1, by omega⟩
  have hll : (l ++ [t]).length = l.length + 1 := by rw [List.length_append, List.length_singleton]
  have hrd := rd_last l t (by omega)
  have hw : wrap64 (((l ++ [t]).length : Int) - 1) = l.length := by rw [hll]; rw [cwr _ (by omega) (by omega)]; omega
  unfold R2_tag.l0 attrsF
  rw [hrd, ht]
  obtain ⟨I, hI⟩ : ∃ I, skipP s.data.toList a = I := ⟨_, rfl⟩
  have hI1 := skipP_in s.data.toList a h0 (by omega)
  rw [hI] at hI1
  rw [if_pos (by rw [hw]; omega), if_pos (by rw [hw, hll]; omega), skip_at s a hs k (by omega), Option.bind_some, hI, begins_f s ⟨#[62]⟩ I (by omega) (by omega) (by decide) (by decide), Option.bind_some]
  by_cases c1 : standsB s I ⟨#[62]⟩ = true
  ·rw [if_pos c1, if_pos c1, if_pos (by omega), cwr _ (by omega) (by omega)]
   exact ⟨_, rfl, rfl, _, List.getLast?_concat, rfl⟩
  rw [if_neg c1, if_neg c1, begins_f s ⟨#[47, 62]⟩ I (by omega) (by omega) (by decide) (by decide), Option.bind_some]
  by_cases c2 : standsB s I ⟨#[47, 62]⟩ = true
  ·rw [if_pos c2, if_pos c2, if_pos (by omega), cwr _ (by omega) (by omega)]
   exact ⟨_, rfl, rfl, _, List.getLast?_concat, rfl⟩
  rw [if_neg c2, if_neg c2]
  obtain ⟨r, hr, hsame⟩ := attr_f s a hs h0 h1 k (by omega)
  rw [hr, Option.bind_some]
  cases hA : attrP s a with
  | none =>
   rw [hA] at hsame
   have : r.2.2.2.2.2 = false := hsame
   rw [this, if_neg (by decide)]
   exact ⟨_, rfl, rfl⟩
  | some v =>
   obtain ⟨new, a'⟩ := v
   rw [hA] at hsame
   obtain ⟨e1, e2, e3⟩ := hsame
   have hroom := attr_room s a h0 h1 new a' hA
   rw [if_pos e2, if_pos (by omega)]
   subst e1
   exact ih a' (l ++ [t]) _ k e3.symm (by omega) hroom.2.1 (by rw [List.length_append, hll, List.length_singleton]; omega) (by omega) (by omega)
theorem tag_f (s : ByteArray) (a : Int) (hs : s.size ≤ 65536) (h0 : 0 ≤ a) (h1 : a + 1 ≤ (s.size : Int)) (k : Nat) (hk : 500000 ≤ k) : ∃ r, R2_tag.f k s a = some r ∧ PieceSame r (tagP s a) := by
 have hsz : s.data.toList.length = s.size := (Lib.size_eq s).symm
 unfold R2_tag.f tagP
 obtain ⟨E, hE⟩ : ∃ E, nameEndP s.data.toList (a + 1) = E := ⟨_, rfl⟩
 have hE1 := nameEndP_in s.data.toList (a + 1) (by omega) (by omega)
 rw [hE] at hE1
 rw [cwr _ (by omega) (by omega), name_at s (a + 1) hs k (by omega), Option.bind_some, hE]
 simp only [hE]
 by_cases c1 : E = a + 1
 ·rw [if_pos c1, if_pos c1]
  exact ⟨_, rfl, rfl⟩
 rw [if_neg c1, if_neg c1, if_pos (by omega), if_pos (by omega), if_pos (by omega)]
 exact tag_l0 s hs (s.size + 1) E [] _ k rfl (by omega) (by omega) (by simp; omega) (by omega) (by omega)
theorem part_eq (s : ByteArray) (i j : Int) (h0 : 0 ≤ i) (l : List UInt8) (h : l = (s.data.toList.drop i.toNat).take (j - i).toNat) (hij : i ≤ j) : s.extract i.toNat j.toNat = ⟨l.toArray⟩ := by
 apply ByteArray.ext; apply Array.ext'
 rw [Lib.extract_data, h, show j.toNat - i.toNat = (j - i).toNat from by omega]
theorem piece_f (s : ByteArray) (a : Int) (hs : s.size ≤ 65536) (h0 : 0 ≤ a) (h1 : a < (s.size : Int)) (k : Nat) (hk : 600000 ≤ k) : ∃ r, R2_piece.f k s a = some r ∧ PieceSame r (stepP s a) := by
 have hsz : s.data.toList.length = s.size := (Lib.size_eq s).symm
 unfold R2_piece.f stepP
 rw [begins_f s ⟨#[60, 33, 45, 45]⟩ a h0 (by omega) (by decide) (by decide), Option.bind_some]
 by_cases c1 : standsB s a ⟨#[60, 33, 45, 45]⟩ = true
 ·have hr := stands_room2 s a _ h0 (by decide) c1
  rw [show ((⟨#[60, 33, 45, 45]⟩ : ByteArray).size : Int) = 4 from rfl] at hr
  rw [if_pos c1, if_pos c1, cwr _ (by omega) (by omega), find_f s ⟨#[45, 45]⟩ (a + 4) (by omega) (by omega) (by omega) (by decide) (by decide) k (by omega), Option.bind_some]
  unfold commentP
  have hle := Lib.index_le (s.data.toList.drop (a.toNat + 4)) [45, 45]
  rw [List.length_drop] at hle
  have hT : findN s.data.toList (⟨#[45, 45]⟩ : ByteArray).data.toList (a + 4).toNat = if Lib.index (s.data.toList.drop (a.toNat + 4)) [45, 45] < 0 then -1 else a + 4 + Lib.index (s.data.toList.drop (a.toNat + 4)) [45, 45] := by
   unfold findN
   rw [show (a + 4).toNat = a.toNat + 4 from by omega, show (⟨#[45, 45]⟩ : ByteArray).data.toList = [45, 45] from rfl]
   split
   ·rfl
   ·omega
  obtain ⟨i, hi⟩ : ∃ i, Lib.index (s.data.toList.drop (a.toNat + 4)) [45, 45] = i := ⟨_, rfl⟩
  rw [hi] at hT hle
  rw [hT]
  simp only [hi]
  by_cases c : i < 0
  ·rw [if_pos c, if_pos c, if_pos (by omega)]
   exact ⟨_, rfl, rfl⟩
  rw [if_neg c, if_neg c, if_neg (by omega), begins_f s ⟨#[45, 45, 62]⟩ (a + 4 + i) (by omega) (by omega) (by decide) (by decide), Option.bind_some]
  have hst : standsB s (a + 4 + i) ⟨#[45, 45, 62]⟩ = Lib.hasPrefix ((s.data.toList.drop (a.toNat + 4)).drop i.toNat) [45, 45, 62] := by
   unfold standsB
   rw [List.drop_drop, show (a + 4 + i).toNat = a.toNat + 4 + i.toNat from by omega]
  rw [hst]
  by_cases c' : Lib.hasPrefix ((s.data.toList.drop (a.toNat + 4)).drop i.toNat) [45, 45, 62] = true
  ·rw [if_pos c', if_pos c', if_pos (by omega), if_pos (by omega), if_pos (by omega), cwr _ (by omega) (by omega)]
   refine ⟨_, rfl, ?_, _, rfl, rfl⟩
   rw [part_eq s (a + 4) (a + 4 + i) (by omega) ((s.data.toList.drop (a.toNat + 4)).take i.toNat) (by rw [show (a + 4).toNat = a.toNat + 4 from by omega]; congr 1; omega) (by omega)]
  ·rw [if_neg c', if_neg c']
   exact ⟨_, rfl, rfl⟩
 rw [if_neg c1, if_neg c1, begins_f s ⟨#[60, 33, 91, 67, 68, 65, 84, 65, 91]⟩ a h0 (by omega) (by decide) (by decide), Option.bind_some]
 by_cases c2 : standsB s a ⟨#[60, 33, 91, 67, 68, 65, 84, 65, 91]⟩ = true
 ·have hr := stands_room2 s a _ h0 (by decide) c2
  rw [show ((⟨#[60, 33, 91, 67, 68, 65, 84, 65, 91]⟩ : ByteArray).size : Int) = 9 from rfl] at hr
  rw [if_pos c2, if_pos c2, cwr _ (by omega) (by omega), find_f s ⟨#[93, 93, 62]⟩ (a + 9) (by omega) (by omega) (by omega) (by decide) (by decide) k (by omega), Option.bind_some]
  unfold plainP
  have hcf := cut_find s.data.toList [93, 93, 62] (a + 9).toNat
  rw [show (⟨#[93, 93, 62]⟩ : ByteArray).data.toList = [93, 93, 62] from rfl]
  obtain ⟨T, hT⟩ : ∃ T, findN s.data.toList [93, 93, 62] (a + 9).toNat = T := ⟨_, rfl⟩
  rw [hT] at hcf ⊢
  rw [show (a + 9).toNat = a.toNat + 9 from by omega] at hcf ⊢
  obtain ⟨c, hc⟩ : ∃ c, Lib.cut (s.data.toList.drop (a.toNat + 9)) [93, 93, 62] = c := ⟨_, rfl⟩
  rw [hc] at hcf
  simp only [hc]
  by_cases c5 : T < 0
  ·have e5 : ¬ c.2.2 = true := by rw [hcf.1, decide_eq_false (by omega)]; decide
   rw [if_pos c5, if_neg e5]
   exact ⟨_, rfl, rfl⟩
  ·have e5 : c.2.2 = true := by rw [hcf.1, decide_eq_true (by omega)]
   obtain ⟨hT1, hc1⟩ := hcf.2 (by omega)
   have hcl : (c.1.length : Int) ≤ (s.size : Int) - (a + 9) := by
    rw [hc1, List.length_take, List.length_drop]; omega
   rw [if_neg c5, if_pos e5, if_pos (by omega), if_pos (by omega), if_pos (by omega), cwr _ (by omega) (by omega)]
   refine ⟨_, rfl, ?_, _, rfl, rfl⟩
   have hp := part_eq s (a + 9) T (by omega) c.1 (by rw [show (a + 9).toNat = a.toNat + 9 from by omega, hc1]; congr 1; omega) (by omega)
   rw [show (a + 9).toNat = a.toNat + 9 from by omega] at hp
   rw [hp, show T + 3 = a + 9 + (c.1.length : Int) + 3 from by omega]
 rw [if_neg c2, if_neg c2]
 rw [begins_f s ⟨#[60, 47]⟩ a h0 (by omega) (by decide) (by decide), Option.bind_some]
 by_cases c3 : standsB s a ⟨#[60, 47]⟩ = true
 ·have hr := stands_room2 s a _ h0 (by decide) c3
  rw [show ((⟨#[60, 47]⟩ : ByteArray).size : Int) = 2 from rfl] at hr
  unfold closingP
  obtain ⟨E, hE⟩ : ∃ E, nameEndP s.data.toList (a + 2) = E := ⟨_, rfl⟩
  obtain ⟨T, hT⟩ : ∃ T, skipP s.data.toList E = T := ⟨_, rfl⟩
  have hE1 := nameEndP_in s.data.toList (a + 2) (by omega) (by omega)
  rw [hE] at hE1
  have hT1 := skipP_in s.data.toList E (by omega) (by omega)
  rw [hT] at hT1
  rw [if_pos c3, if_pos c3, cwr _ (by omega) (by omega), name_at s (a + 2) hs k (by omega), Option.bind_some, hE, skip_at s E hs k (by omega), Option.bind_some, hT]
  simp only [hE, hT]
  by_cases c : E = a + 2
  ·rw [if_pos c, if_pos c]
   exact ⟨_, rfl, rfl⟩
  rw [if_neg c, if_neg c, begins_f s ⟨#[62]⟩ T (by omega) (by omega) (by decide) (by decide), Option.bind_some]
  by_cases c' : standsB s T ⟨#[62]⟩ = true
  ·rw [if_pos c', if_pos c', if_pos (by omega), if_pos (by omega), if_pos (by omega), cwr _ (by omega) (by omega)]
   exact ⟨_, rfl, rfl, _, rfl, rfl⟩
  ·rw [if_neg c', if_neg c']
   exact ⟨_, rfl, rfl⟩
 rw [if_neg c3, if_neg c3, begins_f s ⟨#[60]⟩ a h0 (by omega) (by decide) (by decide), Option.bind_some]
 by_cases c4 : standsB s a ⟨#[60]⟩ = true
 ·rw [if_pos c4, if_pos c4]
  obtain ⟨r, hr, hsame⟩ := tag_f s a hs h0 (by omega) k (by omega)
  rw [hr, Option.bind_some]
  exact ⟨_, rfl, hsame⟩
 rw [if_neg c4, if_neg c4]
 rw [find_f s ⟨#[60]⟩ a h0 (by omega) (by omega) (by decide) (by decide) k (by omega), Option.bind_some, show (⟨#[60]⟩ : ByteArray).data.toList = [60] from rfl]
 unfold textP
 have hcf := cut_find s.data.toList [60] a.toNat
 obtain ⟨T, hT⟩ : ∃ T, findN s.data.toList [60] a.toNat = T := ⟨_, rfl⟩
 obtain ⟨c, hc⟩ : ∃ c, Lib.cut (s.data.toList.drop a.toNat) [60] = c := ⟨_, rfl⟩
 rw [hT, hc] at hcf
 rw [hT]
 simp only [hc]
 have hcl : c.1.length ≤ (s.data.toList.drop a.toNat).length := by rw [← hc]; exact cut_le _ _
 rw [List.length_drop] at hcl
 have hfin : ∀ R : ByteArray, R.data.toList = c.1 → ∃ r, ((R2_decoded.f k R).bind fun b => some ([(⟨6, a, a + (c.1.length : Int), (⟨#[]⟩ : ByteArray), b.1⟩ : Tok)], b.2)) = some r ∧ PieceSame r (match dec c.1 with
  | some v => some ([(⟨6, a, a + (c.1.length : Int), ⟨#[]⟩, ⟨v.toArray⟩⟩ : Tok)], a + (c.1.length : Int))
  | none => none) := by
  intro R hR
  have hRs : R.size ≤ s.size := by rw [Lib.size_eq, hR]; omega
  rw [decoded_f R (by omega) k (by omega), Option.bind_some]
  refine ⟨_, rfl, ?_⟩
  unfold decR
  rw [hR]
  cases hd : dec c.1 with
  | none => rfl
  | some v =>
   have hv : (⟨#[]⟩ : ByteArray) ++ (⟨v.toArray⟩ : ByteArray) = ⟨v.toArray⟩ := by
    apply ByteArray.ext; apply Array.ext'; simp [ByteArray.data_append]
   refine ⟨?_, _, rfl, rfl⟩
   show ([_], true) = _
   rw [← hv]
 by_cases c5 : T < 0
 ·have hcu : c.1 = s.data.toList.drop a.toNat := by
   rw [← hc]
   unfold Lib.cut
   rw [if_neg]
   intro hi
   have : (Lib.cut (s.data.toList.drop a.toNat) [60]).2.2 = true := by unfold Lib.cut; rw [if_pos hi]
   rw [hc, hcf.1, decide_eq_true_eq] at this
   omega
  have hlen : (s.size : Int) = a + (c.1.length : Int) := by rw [hcu, List.length_drop]; omega
  rw [if_pos c5, if_pos h0, if_pos (by omega), if_pos (by omega)]
  have := hfin (s.extract a.toNat ((s.size : Int)).toNat) (by rw [Lib.extract_data, hcu, List.take_of_length_le (by rw [List.length_drop]; omega)])
  rw [← hlen] at this
  rw [← hlen]
  exact this
 ·obtain ⟨hT1, hc1⟩ := hcf.2 (by omega)
  rw [if_neg c5, if_pos h0, if_pos (by omega), if_pos (by omega)]
  have hTa : T = a + (c.1.length : Int) := by omega
  have := hfin (s.extract a.toNat T.toNat) (by rw [Lib.extract_data, hc1]; congr 1; omega)
  rw [← hTa] at this
  rw [← hTa]
  exact this
theorem rd_end (l : List Tok) (t : Tok) (ht : l.getLast? = some t) (h : l.length ≤ 4294967296) : rd_T51 l (wrap64 ((l.length : Int) - 1)) = t ∧ wrap64 ((l.length : Int) - 1) = (l.length : Int) - 1 ∧ 1 ≤ l.length := by
 obtain ⟨pre, hp⟩ := List.getLast?_eq_some_iff.1 ht
 subst hp
 have := rd_last pre t h
 refine ⟨this, cwr _ (by omega) (by omega), by simp⟩
theorem lex_l0 (s : ByteArray) (hs : s.size ≤ 65536) (n : Nat) : ∀ (a : Int) (acc : List Tok) (k : Nat), 0 ≤ a → a ≤ (s.size : Int) → (acc.length : Int) ≤ a → (s.size : Int) - a < n → 700000 + n ≤ k →
 R2_Lex.l0 k s acc a = some (match lexF s n a acc with | some l => (l, 0) | none => ([], 15)) := by
 induction n with
 | zero => intro a acc k _ h1 _ h2 _; omega
 | succ n ih =>
  intro a acc k h0 h1 hl hn hk
  obtain ⟨k, rfl⟩ : ∃ j, k = j + 1 := ⟨k - 1, by omega⟩
  unfold R2_Lex.l0 lexF
  by_cases hlt : a < (s.size : Int)
  ·obtain ⟨r, hr, hsame⟩ := piece_f s a hs h0 hlt k (by omega)
   rw [if_pos hlt, if_pos hlt, hr, Option.bind_some]
   cases hS : stepP s a with
   | none =>
    rw [hS] at hsame
    have : r.2 = false := hsame
    rw [this, if_neg (by decide)]
   | some v =>
    obtain ⟨new, a'⟩ := v
    rw [hS] at hsame
    obtain ⟨rfl, t, ht, hta⟩ := hsame
    have hroom := step_room s a h0 hlt new a' hS
    obtain ⟨e1, e2, e3⟩ := rd_end new t ht (by omega)
    rw [if_pos rfl]
    simp only
    rw [if_neg (by omega), if_pos (by omega), e1, if_pos (by omega), if_pos (by omega), hta]
    exact ih a' (acc ++ new) k (by omega) hroom.2.1 (zz72) (by omega) (by omega)
  ·rw [if_neg hlt, if_neg hlt]
theorem ref_lex_f (s : ByteArray) (k : Nat) (hk : 900000 ≤ k) : R2_Lex.f k s = some (lexV s) := by
 unfold R2_Lex.f lexV
 by_cases c1 : (65536 : Int) < (s.size : Int)
 ·rw [if_pos c1, if_pos c1]
 rw [if_neg c1, if_neg c1]
 obtain ⟨j, rfl⟩ : ∃ j, k = s.size + 50 + j := ⟨k - (s.size + 50), by omega⟩
 rw [ref_valid_f s (by omega) j, Option.bind_some]
 cases hv : validL s.data.toList with
 | false => rw [if_neg (by decide), if_pos rfl]
 | true =>
  rw [if_pos rfl, if_neg (by decide), lex_l0 s (by omega) (s.size + 1) 0 [] _ (by omega) (by omega) (by simp) (by omega) (by omega)]
  rfl
end Go.Proofs.YtlhhhlimjajnlaaGreat.P12
end
