/- Plain functions that say what the functions of package chars compute: no program in sight. -/
import Derived.Lib.Strings
import Derived.Lib.Bytealg
import Derived.Lib.IndexLaws
import Derived.Lib.IndexMore
set_option linter.unusedVariables false
set_option linter.unusedSimpArgs false
namespace Go.Proofs.Ytekkaoenabjeiaa
open Go

def pointB (c : Int) : Bool := decide (0 ≤ c ∧ c ≤ 1114111 ∧ (c < 55296 ∨ 57343 < c))
def sizeN (c : Int) : Int := if c < 128 then 1 else if c < 2048 then 2 else if c < 65536 then 3 else 4
def leadN (n : Int) : Int := if n = 1 then 0 else if n = 2 then 192 else if n = 3 then 224 else if n = 4 then 240 else 248
def allowedB (c : Int) : Bool := c == 9 || c == 10 || c == 13 || (decide (32 ≤ c) && !(c == 65534) && !(c == 65535) && pointB c)
def byteI (x : Int) : UInt8 := UInt8.ofNat x.toNat
def encL (c : Int) : List UInt8 :=
  if pointB c then
    (if c < 128 then [byteI c]
     else if c < 2048 then [byteI (192 + c / 64), byteI (128 + c % 64)]
     else if c < 65536 then [byteI (224 + c / 4096), byteI (128 + c / 64 % 64), byteI (128 + c % 64)]
     else [byteI (240 + c / 262144), byteI (128 + c / 4096 % 64), byteI (128 + c / 64 % 64), byteI (128 + c % 64)])
  else []
/-- the rest of a character's bytes -/
def runeTail : Int → List UInt8 → Int
  | code, [] => code
  | code, c :: t => if c.toNat / 64 = 2 then runeTail (code * 64 + (c.toNat % 64 : Nat)) t else -1
/-- how many bytes the first one tells -/
def runeLen (a : Nat) : Int := if 248 ≤ a then 0 else if 240 ≤ a then 4 else if 224 ≤ a then 3 else if 192 ≤ a then 2 else if 128 ≤ a then 0 else 1
/-- the character at the begin of a list -/
def decL : List UInt8 → Int × Int
  | [] => (-1, 0)
  | a :: t =>
    if runeLen a.toNat = 0 then (-1, 0)
    else if (t.length : Int) + 1 < runeLen a.toNat then (-1, 0)
    else
      let c := runeTail ((a.toNat : Int) - leadN (runeLen a.toNat)) (t.take (runeLen a.toNat - 1).toNat)
      if pointB c && sizeN c == runeLen a.toNat then (c, runeLen a.toNat) else (-1, 0)
def runeP (l : List UInt8) (i : Int) : Int × Int := if 0 ≤ i ∧ i < l.length then decL (l.drop i.toNat) else (-1, 0)

def escB (c : UInt8) : List UInt8 :=
  if c = 38 then [38, 97, 109, 112, 59] else if c = 60 then [38, 108, 116, 59] else if c = 62 then [38, 103, 116, 59] else if c = 34 then [38, 113, 117, 111, 116, 59] else [c]
def escL (l : List UInt8) : List UInt8 := l.flatMap escB

def spaceB (c : UInt8) : Bool := decide (c.toNat = 32 ∨ c.toNat = 9 ∨ c.toNat = 10 ∨ c.toNat = 13)
def nameB (c : UInt8) : Bool := decide ((97 ≤ c.toNat ∧ c.toNat ≤ 122) ∨ (65 ≤ c.toNat ∧ c.toNat ≤ 90) ∨ c.toNat = 95)
def moreB (c : UInt8) : Bool := decide ((48 ≤ c.toNat ∧ c.toNat ≤ 57) ∨ c.toNat = 45 ∨ c.toNat = 46)
def skipP (l : List UInt8) (i : Int) : Int := if 0 ≤ i ∧ i < l.length then i + ((l.drop i.toNat).takeWhile spaceB).length else i
/-- how long the name is that a list begins with -/
def nameLen : List UInt8 → Nat
  | [] => 0
  | c :: t => if nameB c then 1 + (t.takeWhile fun d => nameB d || moreB d).length else 0
def nameEndP (l : List UInt8) (i : Int) : Int := if 0 ≤ i ∧ i < l.length then i + nameLen (l.drop i.toNat) else i

/-- a digit's worth -/
def digitV (c : UInt8) : Int :=
  if 48 ≤ c.toNat ∧ c.toNat ≤ 57 then (c.toNat : Int) - 48 else if 97 ≤ c.toNat ∧ c.toNat ≤ 102 then (c.toNat : Int) - 87 else if 65 ≤ c.toNat ∧ c.toNat ≤ 70 then (c.toNat : Int) - 55 else -1
/-- the number of digits, if all are some of a base -/
def digitsV (base : Int) : Int → List UInt8 → Option Int
  | n, [] => some n
  | n, c :: t => if 0 ≤ digitV c ∧ digitV c < base then digitsV base (n * base + digitV c) t else none
def numdL (base : Int) (l : List UInt8) : List UInt8 :=
  if l = [] ∨ 8 < l.length then [] else match digitsV base 0 l with
    | some n => if allowedB n then encL n else []
    | none => []
def namedL (l : List UInt8) : List UInt8 :=
  if l = [108, 116] then [60] else if l = [103, 116] then [62] else if l = [97, 109, 112] then [38] else if l = [113, 117, 111, 116] then [34] else if l = [97, 112, 111, 115] then [39] else []
/-- what stands for a character, by what is between the signs -/
def bodyL (b : List UInt8) : List UInt8 :=
  if [35, 120].isPrefixOf b then numdL 16 (b.drop 2) else if [35].isPrefixOf b then numdL 10 (b.drop 1) else namedL b
/-- what stands up to a byte; none, if that isn't there -/
def upTo (c : UInt8) : List UInt8 → Option (List UInt8)
  | [] => none
  | a :: t => if a = c then some [] else (upTo c t).map (a :: ·)
def entL : List UInt8 → List UInt8 × Int
  | [] => ([], 0)
  | a :: t => if a = 38 then (match upTo 59 t with
      | some b => if bodyL b = [] then ([], 0) else (bodyL b, (b.length : Int) + 2)
      | none => ([], 0)) else ([], 0)
def entP (l : List UInt8) (i : Int) : List UInt8 × Int := if 0 ≤ i ∧ i < l.length then entL (l.drop i.toNat) else ([], 0)

/-- may all of a text be? (as many steps as it has bytes) -/
def validF : Nat → List UInt8 → Bool
  | _, [] => true
  | 0, _ => false
  | n + 1, l => decide (0 < (decL l).2) && allowedB (decL l).1 && validF n (l.drop (decL l).2.toNat)
def validL (l : List UInt8) : Bool := validF l.length l

end Go.Proofs.Ytekkaoenabjeiaa
