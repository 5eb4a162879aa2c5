/- Parts of the proof of canonSpoilt_holds, kept and merged by a program of mine (wip/tools/slim.py) out of my texts: ChSpec P11c LexSpec -/
import Derived.Lib.Strings
import Derived.Lib.Bytealg
import Derived.Lib.IndexLaws
import Derived.Lib.IndexMore
section
set_option linter.unusedVariables false
set_option linter.unusedSimpArgs false
namespace Go.Proofs.YtlhhhlimjajnlaaGreat
open Go
def pointB (c : Int) : Bool := decide (0 ≤ c ∧ c ≤ 1114111 ∧ (c < 55296 ∨ 57343 < c))
def sizeN (c : Int) : Int := if c < 128 then 1 else if c < 2048 then 2 else if c < 65536 then 3 else 4
def leadN (n : Int) : Int := if n = 1 then 0 else if n = 2 then 192 else if n = 3 then 224 else if n = 4 then 240 else 248
def allowedB (c : Int) : Bool := c == 9 || c == 10 || c == 13 || (decide (32 ≤ c) && !(c == 65534) && !(c == 65535) && pointB c)
def byteI (x : Int) : UInt8 := UInt8.ofNat x.toNat
def encL (c : Int) : List UInt8 :=
 if pointB c then
  (if c < 128 then [byteI c]
   else if c < 2048 then [byteI (192 + c / 64), byteI (128 + c % 64)]
   else if c < 65536 then [byteI (224 + c / 4096), byteI (128 + c / 64 % 64), byteI (128 + c % 64)]
   else [byteI (240 + c / 262144), byteI (128 + c / 4096 % 64), byteI (128 + c / 64 % 64), byteI (128 + c % 64)])
 else []
def runeTail : Int → List UInt8 → Int
 | code, [] => code
 | code, c :: t => if c.toNat / 64 = 2 then runeTail (code * 64 + (c.toNat % 64 : Nat)) t else -1
def runeLen (a : Nat) : Int := if 248 ≤ a then 0 else if 240 ≤ a then 4 else if 224 ≤ a then 3 else if 192 ≤ a then 2 else if 128 ≤ a then 0 else 1
def decL : List UInt8 → Int × Int
 | [] => (-1, 0)
 | a :: t =>
  if runeLen a.toNat = 0 then (-1, 0)
  else if (t.length : Int) + 1 < runeLen a.toNat then (-1, 0)
  else
   let c := runeTail ((a.toNat : Int) - leadN (runeLen a.toNat)) (t.take (runeLen a.toNat - 1).toNat)
   if pointB c && sizeN c == runeLen a.toNat then (c, runeLen a.toNat) else (-1, 0)
def runeP (l : List UInt8) (i : Int) : Int × Int := if 0 ≤ i ∧ i < l.length then decL (l.drop i.toNat) else (-1, 0)
def escB (c : UInt8) : List UInt8 :=
 if c = 38 then [38, 97, 109, 112, 59] else if c = 60 then [38, 108, 116, 59] else if c = 62 then [38, 103, 116, 59] else if c = 34 then [38, 113, 117, 111, 116, 59] else [c]
def escL (l : List UInt8) : List UInt8 := l.flatMap escB
def spaceB (c : UInt8) : Bool := decide (c.toNat = 32 ∨ c.toNat = 9 ∨ c.toNat = 10 ∨ c.toNat = 13)
def nameB (c : UInt8) : Bool := decide ((97 ≤ c.toNat ∧ c.toNat ≤ 122) ∨ (65 ≤ c.toNat ∧ c.toNat ≤ 90) ∨ c.toNat = 95)
def moreB (c : UInt8) : Bool := decide ((48 ≤ c.toNat ∧ c.toNat ≤ 57) ∨ c.toNat = 45 ∨ c.toNat = 46)
def skipP (l : List UInt8) (i : Int) : Int := if 0 ≤ i ∧ i < l.length then i + ((l.drop i.toNat).takeWhile spaceB).length else i
def nameLen : List UInt8 → Nat
 | [] => 0
 | c :: t => if nameB c then 1 + (t.takeWhile fun d => nameB d || moreB d).length else 0
def nameEndP (l : List UInt8) (i : Int) : Int := if 0 ≤ i ∧ i < l.length then i + nameLen (l.drop i.toNat) else i
def digitV (c : UInt8) : Int :=
 if 48 ≤ c.toNat ∧ c.toNat ≤ 57 then (c.toNat : Int) - 48 else if 97 ≤ c.toNat ∧ c.toNat ≤ 102 then (c.toNat : Int) - 87 else if 65 ≤ c.toNat ∧ c.toNat ≤ 70 then (c.toNat : Int) - 55 else -1
def digitsV (base : Int) : Int → List UInt8 → Option Int
 | n, [] => some n
 | n, c :: t => if 0 ≤ digitV c ∧ digitV c < base then digitsV base (n * base + digitV c) t else none
def numdL (base : Int) (l : List UInt8) : List UInt8 :=
 if l = [] ∨ 8 < l.length then [] else match digitsV base 0 l with
  | some n => if allowedB n then encL n else []
  | none => []
def namedL (l : List UInt8) : List UInt8 :=
 if l = [108, 116] then [60] else if l = [103, 116] then [62] else if l = [97, 109, 112] then [38] else if l = [113, 117, 111, 116] then [34] else if l = [97, 112, 111, 115] then [39] else []
def bodyL (b : List UInt8) : List UInt8 :=
 if [35, 120].isPrefixOf b then numdL 16 (b.drop 2) else if [35].isPrefixOf b then numdL 10 (b.drop 1) else namedL b
def upTo (c : UInt8) : List UInt8 → Option (List UInt8)
 | [] => none
 | a :: t => if a = c then some [] else (upTo c t).map (a :: ·)
def entL : List UInt8 → List UInt8 × Int
 | [] => ([], 0)
 | a :: t => if a = 38 then (match upTo 59 t with
  | some b => if bodyL b = [] then ([], 0) else (bodyL b, (b.length : Int) + 2)
  | none => ([], 0)) else ([], 0)
def entP (l : List UInt8) (i : Int) : List UInt8 × Int := if 0 ≤ i ∧ i < l.length then entL (l.drop i.toNat) else ([], 0)
def validF : Nat → List UInt8 → Bool
 | _, [] => true
 | 0, _ => false
 | n + 1, l => decide (0 < (decL l).2) && allowedB (decL l).1 && validF n (l.drop (decL l).2.toNat)
def validL (l : List UInt8) : Bool := validF l.length l
end Go.Proofs.YtlhhhlimjajnlaaGreat
end
section
set_option linter.unusedVariables false
set_option linter.unusedSimpArgs false
namespace Go.Proofs.YtlhhhlimjajnlaaGreat.P11
open Go Go.Proofs.YtlhhhlimjajnlaaGreat
theorem byteI_nat (x : Int) (h0 : 0 ≤ x) (h1 : x < 256) : ((byteI x).toNat : Int) = x := by
 unfold byteI
 rw [UInt8.toNat_ofNat']
 omega
theorem byteI_eq (x : Int) (b : UInt8) (h : x = (b.toNat : Int)) : byteI x = b := by
 apply UInt8.toNat_inj.1
 have := b.toNat_lt
 have := byteI_nat x (by omega) (by omega)
 omega
theorem runeLen1 (a : Nat) (h : a < 128) : runeLen a = 1 := by unfold runeLen; rw [if_neg (by omega), if_neg (by omega), if_neg (by omega), if_neg (by omega), if_neg (by omega)]
theorem runeLen2 (a : Nat) (h : 192 ≤ a) (h1 : a < 224) : runeLen a = 2 := by unfold runeLen; rw [if_neg (by omega), if_neg (by omega), if_neg (by omega), if_pos (by omega)]
theorem runeLen3 (a : Nat) (h : 224 ≤ a) (h1 : a < 240) : runeLen a = 3 := by unfold runeLen; rw [if_neg (by omega), if_neg (by omega), if_pos (by omega)]
theorem runeLen4 (a : Nat) (h : 240 ≤ a) (h1 : a < 248) : runeLen a = 4 := by unfold runeLen; rw [if_neg (by omega), if_pos (by omega)]
theorem point_range {c : Int} (hp : pointB c = true) : 0 ≤ c ∧ c ≤ 1114111 := by
 unfold pointB at hp
 simp at hp
 omega
theorem enc_len (c : Int) (hp : pointB c = true) : ((encL c).length : Int) = sizeN c := by
 unfold encL sizeN
 rw [if_pos hp]
 repeat' split
 all_goals rfl
theorem sizeN_range (c : Int) : 1 ≤ sizeN c ∧ sizeN c ≤ 4 := by
 unfold sizeN
 repeat' split
 all_goals omega
theorem enc_nil (c : Int) : encL c = [] ↔ pointB c = false := by
 constructor
 ·intro h
  by_cases hp : pointB c = true
  ·have := enc_len c hp
   have := sizeN_range c
   rw [h] at *
   simp at *
   omega
  ·simpa using hp
 ·intro h
  unfold encL
  rw [if_neg (by rw [h]; decide)]
theorem tail1 (code : Int) (x : UInt8) (t : List UInt8) (v : Int) (h : (x.toNat : Int) = 128 + v) (h0 : 0 ≤ v) (h1 : v < 64) : runeTail code (x :: t) = runeTail (code * 64 + v) t := by
 rw [runeTail, if_pos (by omega)]
 congr 1
 omega
theorem dec_enc (c : Int) (hp : pointB c = true) (t : List UInt8) : decL (encL c ++ t) = (c, sizeN c) := by
 have hb := point_range hp
 unfold encL sizeN
 rw [if_pos hp]
 by_cases h1 : c < 128
 ·rw [if_pos h1, if_pos h1]
  have e0 := byteI_nat c hb.1 (by omega)
  show decL (byteI c :: t) = _
  rw [decL, runeLen1 _ (by omega), if_neg (by decide), if_neg (by omega)]
  simp only [show ((1 : Int) - 1).toNat = 0 from rfl, List.take_zero, runeTail]
  rw [e0, show leadN 1 = 0 from rfl, Int.sub_zero, hp, show sizeN c = 1 from by unfold sizeN; rw [if_pos h1]]
  rfl
 rw [if_neg h1, if_neg h1]
 by_cases h2 : c < 2048
 ·rw [if_pos h2, if_pos h2]
  have e0 := byteI_nat (192 + c / 64) (by omega) (by omega)
  have e1 := byteI_nat (128 + c % 64) (by omega) (by omega)
  show decL (byteI (192 + c / 64) :: byteI (128 + c % 64) :: t) = _
  rw [decL, runeLen2 _ (by omega) (by omega), if_neg (by decide), if_neg (by simp; omega)]
  simp only [show ((2 : Int) - 1).toNat = 1 from rfl, List.take_succ_cons, List.take_zero]
  rw [tail1 _ _ _ (c % 64) e1 (by omega) (by omega), runeTail, e0, show leadN 2 = 192 from rfl, show (192 + c / 64 - 192) * 64 + c % 64 = c from by omega, hp, show sizeN c = 2 from by unfold sizeN; rw [if_neg h1, if_pos h2]]
  rfl
 rw [if_neg h2, if_neg h2]
 by_cases h3 : c < 65536
 ·rw [if_pos h3, if_pos h3]
  have e0 := byteI_nat (224 + c / 4096) (by omega) (by omega)
  have e1 := byteI_nat (128 + c / 64 % 64) (by omega) (by omega)
  have e2 := byteI_nat (128 + c % 64) (by omega) (by omega)
  show decL (byteI (224 + c / 4096) :: byteI (128 + c / 64 % 64) :: byteI (128 + c % 64) :: t) = _
  rw [decL, runeLen3 _ (by omega) (by omega), if_neg (by decide), if_neg (by simp; omega)]
  simp only [show ((3 : Int) - 1).toNat = 2 from rfl, List.take_succ_cons, List.take_zero]
  rw [tail1 _ _ _ (c / 64 % 64) e1 (by omega) (by omega), tail1 _ _ _ (c % 64) e2 (by omega) (by omega), runeTail, e0, show leadN 3 = 224 from rfl, show ((224 + c / 4096 - 224) * 64 + c / 64 % 64) * 64 + c % 64 = c from by omega, hp, show sizeN c = 3 from by unfold sizeN; rw [if_neg h1, if_neg h2, if_pos h3]]
  rfl
 rw [if_neg h3, if_neg h3]
 have e0 := byteI_nat (240 + c / 262144) (by omega) (by omega)
 have e1 := byteI_nat (128 + c / 4096 % 64) (by omega) (by omega)
 have e2 := byteI_nat (128 + c / 64 % 64) (by omega) (by omega)
 have e3 := byteI_nat (128 + c % 64) (by omega) (by omega)
 show decL (byteI (240 + c / 262144) :: byteI (128 + c / 4096 % 64) :: byteI (128 + c / 64 % 64) :: byteI (128 + c % 64) :: t) = _
 rw [decL, runeLen4 _ (by omega) (by omega), if_neg (by decide), if_neg (by simp; omega)]
 simp only [show ((4 : Int) - 1).toNat = 3 from rfl, List.take_succ_cons, List.take_zero]
 rw [tail1 _ _ _ (c / 4096 % 64) e1 (by omega) (by omega), tail1 _ _ _ (c / 64 % 64) e2 (by omega) (by omega), tail1 _ _ _ (c % 64) e3 (by omega) (by omega), runeTail, e0, show leadN 4 = 240 from rfl, show (((240 + c / 262144 - 240) * 64 + c / 4096 % 64) * 64 + c / 64 % 64) * 64 + c % 64 = c from by omega, hp, show sizeN c = 4 from by unfold sizeN; rw [if_neg h1, if_neg h2, if_neg h3]]
 rfl
theorem tail_good (code : Int) (x : UInt8) (t : List UInt8) (h : pointB (runeTail code (x :: t)) = true) : ∃ v : Int, (x.toNat : Int) = 128 + v ∧ 0 ≤ v ∧ v < 64 ∧ runeTail code (x :: t) = runeTail (code * 64 + v) t := by
 rw [runeTail] at h
 split at h
 ·rename_i hx
  exact ⟨(x.toNat : Int) - 128, by omega, by omega, by omega, tail1 _ _ _ _ (by omega) (by omega) (by omega)⟩
 ·exact absurd h (by decide)
theorem enc_dec (l : List UInt8) (h : ¬ (decL l).2 = 0) : pointB (decL l).1 = true ∧ (decL l).2 = sizeN (decL l).1 ∧ ∃ t, l = encL (decL l).1 ++ t := by
 match l, h with
 | [], h => exact absurd rfl h
 | a :: t, h =>
  have hal := a.toNat_lt
  rw [decL] at h ⊢
  by_cases h0 : runeLen a.toNat = 0
  ·rw [if_pos h0] at h; exact absurd rfl h
  rw [if_neg h0] at h ⊢
  by_cases h1 : (t.length : Int) + 1 < runeLen a.toNat
  ·rw [if_pos h1] at h; exact absurd rfl h
  rw [if_neg h1] at h ⊢
  simp only at h ⊢
  obtain ⟨c, hc⟩ : ∃ c, runeTail ((a.toNat : Int) - leadN (runeLen a.toNat)) (t.take (runeLen a.toNat - 1).toNat) = c := ⟨_, rfl⟩
  rw [hc] at h ⊢
  by_cases h2 : (pointB c && sizeN c == runeLen a.toNat) = true
  ·rw [if_pos h2]
   simp only [Bool.and_eq_true, beq_iff_eq] at h2
   obtain ⟨hp, hs⟩ := h2
   refine ⟨hp, hs.symm, ?_⟩
   have hb := point_range hp
   have hsz := hs
   unfold sizeN at hsz
   unfold encL
   rw [if_pos hp]
   by_cases g4 : 240 ≤ a.toNat
   ·have hl : runeLen a.toNat = 4 := by
     by_cases g5 : 248 ≤ a.toNat
     ·exact absurd (by unfold runeLen; rw [if_pos g5]) h0
     ·exact runeLen4 _ g4 (by omega)
    rw [hl] at hc h1 hsz
    match t, h1, hc with
    | x :: y :: z :: t', _, hc =>
     simp only [show ((4 : Int) - 1).toNat = 3 from rfl, List.take_succ_cons, List.take_zero, show leadN 4 = 240 from rfl] at hc
     obtain ⟨v1, a1, b1, c1, d1⟩ := tail_good _ _ _ (by rw [hc]; exact hp)
     rw [d1] at hc
     obtain ⟨v2, a2, b2, c2, d2⟩ := tail_good _ _ _ (by rw [hc]; exact hp)
     rw [d2] at hc
     obtain ⟨v3, a3, b3, c3, d3⟩ := tail_good _ _ _ (by rw [hc]; exact hp)
     rw [d3, runeTail] at hc
     have hge : ¬ c < 65536 ∧ ¬ c < 2048 ∧ ¬ c < 128 := by
      refine ⟨fun hh => ?_, fun hh => ?_, fun hh => ?_⟩
      all_goals
       revert hsz
       repeat' split
       all_goals omega
     rw [if_neg hge.2.2, if_neg hge.2.1, if_neg hge.1]
     refine ⟨t', ?_⟩
     rw [byteI_eq (240 + c / 262144) a (by omega), byteI_eq (128 + c / 4096 % 64) x (by omega), byteI_eq (128 + c / 64 % 64) y (by omega), byteI_eq (128 + c % 64) z (by omega)]
     rfl
    | [], h1, _ => simp at h1
    | [_], h1, _ => simp at h1
    | [_, _], h1, _ => simp at h1
   by_cases g3 : 224 ≤ a.toNat
   ·have hl : runeLen a.toNat = 3 := runeLen3 _ g3 (by omega)
    rw [hl] at hc h1 hsz
    match t, h1, hc with
    | x :: y :: t', _, hc =>
     simp only [show ((3 : Int) - 1).toNat = 2 from rfl, List.take_succ_cons, List.take_zero, show leadN 3 = 224 from rfl] at hc
     obtain ⟨v1, a1, b1, c1, d1⟩ := tail_good _ _ _ (by rw [hc]; exact hp)
     rw [d1] at hc
     obtain ⟨v2, a2, b2, c2, d2⟩ := tail_good _ _ _ (by rw [hc]; exact hp)
     rw [d2, runeTail] at hc
     have hge : c < 65536 ∧ ¬ c < 2048 ∧ ¬ c < 128 := by
      refine ⟨?_, fun hh => ?_, fun hh => ?_⟩
      ·omega
      all_goals
       revert hsz
       repeat' split
       all_goals omega
     rw [if_neg hge.2.2, if_neg hge.2.1, if_pos hge.1]
     refine ⟨t', ?_⟩
     rw [byteI_eq (224 + c / 4096) a (by omega), byteI_eq (128 + c / 64 % 64) x (by omega), byteI_eq (128 + c % 64) y (by omega)]
     rfl
    | [], h1, _ => simp at h1
    | [_], h1, _ => simp at h1
   by_cases g2 : 192 ≤ a.toNat
   ·have hl : runeLen a.toNat = 2 := runeLen2 _ g2 (by omega)
    rw [hl] at hc h1 hsz
    match t, h1, hc with
    | x :: t', _, hc =>
     simp only [show ((2 : Int) - 1).toNat = 1 from rfl, List.take_succ_cons, List.take_zero, show leadN 2 = 192 from rfl] at hc
     obtain ⟨v1, a1, b1, c1, d1⟩ := tail_good _ _ _ (by rw [hc]; exact hp)
     rw [d1, runeTail] at hc
     have hge : c < 2048 ∧ ¬ c < 128 := by
      refine ⟨?_, fun hh => ?_⟩
      ·omega
      ·revert hsz
       repeat' split
       all_goals omega
     rw [if_neg hge.2, if_pos hge.1]
     refine ⟨t', ?_⟩
     rw [byteI_eq (192 + c / 64) a (by omega), byteI_eq (128 + c % 64) x (by omega)]
     rfl
    | [], h1, _ => simp at h1
   by_cases g1 : 128 ≤ a.toNat
   ·exact absurd (by unfold runeLen; rw [if_neg (by omega), if_neg (by omega), if_neg (by omega), if_neg (by omega), if_pos g1]) h0
   ·have hl : runeLen a.toNat = 1 := runeLen1 _ (by omega)
    rw [hl] at hc
    simp only [show ((1 : Int) - 1).toNat = 0 from rfl, List.take_zero, show leadN 1 = 0 from rfl, runeTail] at hc
    rw [if_pos (by omega)]
    exact ⟨t, by rw [byteI_eq c a (by omega)]; rfl⟩
  ·rw [if_neg h2] at h
   exact absurd rfl h
theorem dec_none (l : List UInt8) (h : (decL l).2 = 0) : decL l = (-1, 0) := by
 cases l with
 | nil => rfl
 | cons a t =>
  rw [decL] at h ⊢
  split at h
  ·rename_i h0; rw [if_pos h0]
  ·rename_i h0
   rw [if_neg h0]
   split at h
   ·rename_i h1; rw [if_pos h1]
   ·rename_i h1
    rw [if_neg h1]
    simp only at h ⊢
    split at h
    ·exact absurd h h0
    ·rename_i h2; rw [if_neg h2]
theorem dec_range (l : List UInt8) : 0 ≤ (decL l).2 ∧ (decL l).2 ≤ 4 ∧ (decL l).2 ≤ l.length := by
 by_cases h : (decL l).2 = 0
 ·rw [h]; omega
 ·obtain ⟨hp, hs, t, ht⟩ := enc_dec l h
  have := sizeN_range (decL l).1
  have h2 := enc_len _ hp
  have h3 := congrArg List.length ht
  rw [List.length_append] at h3
  omega
theorem validF_cons (n : Nat) (a : UInt8) (t : List UInt8) : validF (n + 1) (a :: t) = (decide (0 < (decL (a :: t)).2) && allowedB (decL (a :: t)).1 && validF n ((a :: t).drop (decL (a :: t)).2.toNat)) := rfl
theorem validF_more (n : Nat) : ∀ (l : List UInt8) (m : Nat), l.length ≤ n → n ≤ m → validF m l = validF n l := by
 induction n with
 | zero =>
  intro l m h hm
  have : l = [] := List.eq_nil_of_length_eq_zero (by omega)
  subst this
  cases m <;> rfl
 | succ n ih =>
  intro l m h hm
  obtain ⟨m, rfl⟩ : ∃ j, m = j + 1 := ⟨m - 1, by omega⟩
  cases l with
  | nil => rfl
  | cons a t =>
   rw [validF_cons, validF_cons]
   by_cases h0 : 0 < (decL (a :: t)).2
   ·have hl : ((a :: t).drop (decL (a :: t)).2.toNat).length ≤ n := by rw [List.length_drop]; simp at *; omega
    rw [ih _ m hl (by omega), ih _ n hl (by omega)]
   ·rw [show decide (0 < (decL (a :: t)).2) = false from by simpa using h0]; rfl
theorem valid_cons (a : UInt8) (t : List UInt8) : validL (a :: t) = (decide (0 < (decL (a :: t)).2) && allowedB (decL (a :: t)).1 && validL ((a :: t).drop (decL (a :: t)).2.toNat)) := by
 unfold validL
 rw [List.length_cons, validF_cons]
 by_cases h0 : 0 < (decL (a :: t)).2
 ·have hl : ((a :: t).drop (decL (a :: t)).2.toNat).length ≤ t.length := by rw [List.length_drop]; simp; omega
  rw [validF_more _ _ _ (Nat.le_refl _) hl]
 ·rw [show decide (0 < (decL (a :: t)).2) = false from by simpa using h0]; rfl
theorem valid_enc (c : Int) (hp : pointB c = true) (t : List UInt8) : validL (encL c ++ t) = (allowedB c && validL t) := by
 have h := dec_enc c hp t
 have hs := sizeN_range c
 have hl := enc_len c hp
 cases he : encL c with
 | nil => rw [he] at hl; simp at hl; omega
 | cons a b =>
  rw [List.cons_append, valid_cons, ← List.cons_append, ← he, h]
  simp only
  rw [show decide (0 < sizeN c) = true from by simp; omega, Bool.true_and]
  congr 2
  rw [← hl, Int.toNat_natCast, List.drop_left]
theorem valid_ind {P : List UInt8 → Prop} (h0 : P []) (h1 : ∀ c t, pointB c = true → allowedB c = true → validL t = true → P t → P (encL c ++ t)) (n : Nat) : ∀ l : List UInt8, l.length ≤ n → validL l = true → P l := by
 induction n with
 | zero =>
  intro l h _
  have : l = [] := List.eq_nil_of_length_eq_zero (by omega)
  rw [this]
  exact h0
 | succ n ih =>
  intro l h hv
  cases l with
  | nil => exact h0
  | cons a t =>
   have hv2 := hv
   rw [valid_cons] at hv2
   simp only [Bool.and_eq_true, decide_eq_true_eq] at hv2
   obtain ⟨hp, hs, u, hu⟩ := enc_dec (a :: t) (by omega)
   have hlen := enc_len _ hp
   have hu2 := congrArg List.length hu
   rw [List.length_append] at hu2
   rw [hu] at hv ⊢
   rw [valid_enc _ hp] at hv
   simp only [Bool.and_eq_true] at hv
   exact h1 _ _ hp hv.1 hv.2 (ih u (by omega) hv.2)
theorem valid_append (a b : List UInt8) (ha : validL a = true) : validL (a ++ b) = validL b := by
 have : ∀ a : List UInt8, validL a = true → validL (a ++ b) = validL b := fun a h =>
  valid_ind (P := fun a => validL (a ++ b) = validL b) rfl (fun c t hp hc _ ih => by rw [List.append_assoc, valid_enc _ hp, hc, ih]; rfl) a.length a (Nat.le_refl _) h
 exact this a ha
end Go.Proofs.YtlhhhlimjajnlaaGreat.P11
end
section
set_option linter.unusedVariables false
set_option linter.unusedSimpArgs false
namespace Go.Proofs.YtlhhhlimjajnlaaGreat
open Go
theorem encL_le (c : Int) : (encL c).length ≤ 4 := by
 unfold encL
 repeat' (split <;> try simp)
theorem bodyL_le (b : List UInt8) : (bodyL b).length ≤ 4 := by
 have hn : ∀ base l, (numdL base l).length ≤ 4 := by
  intro base l
  unfold numdL
  split
  ·simp
  ·split
   ·split
    ·exact encL_le _
    ·simp
   ·simp
 unfold bodyL
 split
 ·exact hn _ _
 ·split
  ·exact hn _ _
  ·unfold namedL
   repeat' (split <;> try simp)
theorem upTo_lt : ∀ (l : List UInt8) (c : UInt8) (b : List UInt8), upTo c l = some b → b.length < l.length
 | [], c, b, h => by simp [upTo] at h
 | a :: t, c, b, h => by
  unfold upTo at h
  split at h
  ·obtain rfl := Option.some.inj h; simp
  ·cases hu : upTo c t with
   | none => rw [hu] at h; cases h
   | some b' =>
    rw [hu] at h
    obtain rfl := Option.some.inj h
    have := upTo_lt t c b' hu
    simp only [List.length_cons]; omega
theorem entL_at (a : UInt8) (t : List UInt8) : entL (a :: t) = if a = 38 then (match upTo 59 t with | some b => if bodyL b = [] then ([], 0) else (bodyL b, (b.length : Int) + 2) | none => ([], 0)) else ([], 0) := rfl
theorem entL_ok (l : List UInt8) : (entL l).1.length ≤ 4 ∧ 0 ≤ (entL l).2 ∧ (entL l).2 ≤ l.length ∧ ((entL l).2 = 0 → (entL l).1 = []) := by
 cases l with
 | nil => simp [entL]
 | cons a t =>
  rw [entL_at]
  by_cases h : a = 38
  ·rw [if_pos h]
   cases hu : upTo 59 t with
   | none => simp; omega
   | some b =>
    have := upTo_lt t 59 b hu
    have hb := bodyL_le b
    by_cases hn : bodyL b = []
    ·simp only [hn, if_true]; simp; omega
    ·simp only [hn, if_false]
     simp only [List.length_cons]
     refine ⟨hb, by omega, by omega, fun h => by omega⟩
  ·rw [if_neg h]; simp; omega
def decF : Nat → List UInt8 → Option (List UInt8)
 | _, [] => some []
 | 0, _ => none
 | n + 1, c :: t => if c = 38 then (if (entL (c :: t)).2 = 0 then none else (decF n ((c :: t).drop (entL (c :: t)).2.toNat)).map ((entL (c :: t)).1 ++ ·)) else (decF n t).map (c :: ·)
def dec (l : List UInt8) : Option (List UInt8) := decF l.length l
theorem decF_more : ∀ (n : Nat) (l : List UInt8) (m : Nat), l.length ≤ n → n ≤ m → decF m l = decF n l
 | n, [], m, _, _ => by cases n <;> cases m <;> rfl
 | 0, c :: t, m, h, _ => by simp at h
 | n + 1, c :: t, m + 1, h, hm => by
  have h' : t.length ≤ n := by simpa using h
  unfold decF
  by_cases hc : c = 38
  ·rw [if_pos hc, if_pos hc]
   by_cases he : (entL (c :: t)).2 = 0
   ·rw [if_pos he, if_pos he]
   ·rw [if_neg he, if_neg he]
    have := (entL_ok (c :: t)).2.1
    rw [decF_more n _ m (by rw [List.length_drop, List.length_cons]; omega) (by omega)]
  ·rw [if_neg hc, if_neg hc, decF_more n t m h' (by omega)]
 | n + 1, c :: t, 0, _, hm => by omega
theorem dec_nil : dec [] = some [] := rfl
theorem dec_cons (c : UInt8) (t : List UInt8) (h : ¬ c = 38) : dec (c :: t) = (dec t).map (c :: ·) := by
 show decF (t.length + 1) (c :: t) = _
 unfold decF
 rw [if_neg h]; rfl
theorem dec_amp (t : List UInt8) : dec (38 :: t) = if (entL (38 :: t)).2 = 0 then none else (dec ((38 :: t).drop (entL (38 :: t)).2.toNat)).map ((entL (38 :: t)).1 ++ ·) := by
 show decF (t.length + 1) (38 :: t) = _
 unfold decF
 rw [if_pos rfl]
 by_cases he : (entL (38 :: t)).2 = 0
 ·rw [if_pos he, if_pos he]
 ·rw [if_neg he, if_neg he]
  have := (entL_ok (38 :: t)).2.1
  unfold dec
  rw [decF_more _ _ t.length (Nat.le_refl _) (by rw [List.length_drop, List.length_cons]; omega)]
theorem dec_plain : ∀ (p l : List UInt8), (∀ c, c ∈ p → ¬ c = 38) → dec (p ++ l) = (dec l).map (p ++ ·)
 | [], l, _ => by simp
 | c :: p, l, h => by
  rw [List.cons_append, dec_cons c _ (h c (List.mem_cons_self ..)), dec_plain p l (fun d hd => h d (List.mem_cons_of_mem _ hd))]
  cases dec l <;> rfl
def decS (s : ByteArray) : ByteArray := ⟨((dec s.data.toList).getD []).toArray⟩
def decBad (s : ByteArray) : Bool := (dec s.data.toList).isNone
end Go.Proofs.YtlhhhlimjajnlaaGreat
end
