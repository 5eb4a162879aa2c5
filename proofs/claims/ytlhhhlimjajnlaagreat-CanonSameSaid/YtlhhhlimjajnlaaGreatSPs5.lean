/- Parts of the proof of canonSame_holds, kept and merged by a program of mine (wip/tools/slim.py) out of my texts: Q11 Q12 Q6 Q3 Q22 -/
import Derived.Test.YtlhhhlimjajnlaaGreatSPs4
section
namespace Go.Proofs.YtlhhhlimjajnlaaGreat.X
end Go.Proofs.YtlhhhlimjajnlaaGreat.X
namespace Go.Proofs.YtlhhhlimjajnlaaGreat.Q
open Go.RowKit Go.Proofs.YtlhhhlimjajnlaaGreatW.PrintWords Go.Proofs.YtlhhhlimjajnlaaGreatW.PrintLast Go.Proofs.YtlhhhlimjajnlaaGreatW.PrintMore
attribute [local go_sem] max2_int min2_int max_two min_two max_three min_three max_four min_four   
open Go.Proofs.YtlhhhlimjajnlaaGreat.X
set_option linter.unusedVariables false
set_option linter.unusedSimpArgs false
mutual
def topiaryref11_Rune.j0 : Nat → ByteArray → Int → Bool → Option (Int × Int)
 | 0, _, _, _ => none
 | k + 1, x0, x1, x19 => if x19 = true then (some ((-1), 0)) else (topiaryref11_Rune.l0 k x0 x1 1)
def topiaryref11_Rune.l0 : Nat → ByteArray → Int → Int → Option (Int × Int)
 | 0, _, _, _ => none
 | k + 1, x0, x1, x6 => if x6 ≤ 4 then (topiaryref11_Rune.j2 k x0 x1 x6 (decide (x6 ≤ (wrap64 ((x0.size : Int) - x1))))) else (topiaryref11_Rune.j2 k x0 x1 x6 false)
def topiaryref11_Rune.j2 : Nat → ByteArray → Int → Int → Bool → Option (Int × Int)
 | 0, _, _, _, _ => none
 | k + 1, x0, x1, x6, x29 => if x29 = true then (topiaryref11_Rune.l1 k x0 x1 x6 0 0) else (some ((-1), 0))
def topiaryref11_Rune.l1 : Nat → ByteArray → Int → Int → Int → Int → Option (Int × Int)
 | 0, _, _, _, _, _ => none
 | k + 1, x0, x1, x6, x7, x8 => if x8 < x6 then (if 0 ≤ (wrap64 (x1 + x8)) then (if (wrap64 (x1 + x8)) < (x0.size : Int) then (if x8 = 0 then (if x6 = 2 then (topiaryref11_Rune.j4 k x0 x1 x6 x8 (wrap64 (bt x0 (wrap64 (x1 + x8)))) 192) else (topiaryref11_Rune.j4 k x0 x1 x6 x8 (wrap64 (bt x0 (wrap64 (x1 + x8)))) 0)) else (topiaryref11_Rune.l1 k x0 x1 x6 (wrap64 ((wrap64 ((wrap64 (x7 * 64)) + (wrap64 (bt x0 (wrap64 (x1 + x8)))))) - 128)) (wrap64 (x8 + 1)))) else (none)) else (none)) else ((topiaryref11_Encode.f x7).bind fun t167 => (if t167.toList = ([] : List UInt8) then (topiaryref11_Rune.l0 k x0 x1 (wrap64 (x6 + 1))) else (if 0 ≤ x1 then (if x1 ≤ (wrap64 (x1 + x6)) then (if (wrap64 (x1 + x6)) ≤ (x0.size : Int) then (if t167.toList = (x0.extract (x1 : Int).toNat ((wrap64 (x1 + x6)) : Int).toNat).toList then (some (x7, x6)) else (topiaryref11_Rune.l0 k x0 x1 (wrap64 (x6 + 1)))) else (none)) else (none)) else (none))))
def topiaryref11_Rune.j4 : Nat → ByteArray → Int → Int → Int → Int → Int → Option (Int × Int)
 | 0, _, _, _, _, _, _ => none
 | k + 1, x0, x1, x6, x8, x9, x10 => if x6 = 3 then (if x6 = 4 then (topiaryref11_Rune.l1 k x0 x1 x6 (wrap64 (x9 - 240)) (wrap64 (x8 + 1))) else (topiaryref11_Rune.l1 k x0 x1 x6 (wrap64 (x9 - 224)) (wrap64 (x8 + 1)))) else (if x6 = 4 then (topiaryref11_Rune.l1 k x0 x1 x6 (wrap64 (x9 - 240)) (wrap64 (x8 + 1))) else (topiaryref11_Rune.l1 k x0 x1 x6 (wrap64 (x9 - x10)) (wrap64 (x8 + 1))))
end
def topiaryref11_Rune.f (k : Nat) (a0 : ByteArray) (a1 : Int) : Option (Int × Int) := if a1 < 0 then (topiaryref11_Rune.j0 k a0 a1 true) else (topiaryref11_Rune.j0 k a0 a1 (decide (a1 ≥ (a0.size : Int))))
theorem topiaryref11_Rune.mono_l : ∀ k, (∀ y0 y1 y2, LeO (topiaryref11_Rune.j0 k y0 y1 y2) (topiaryref11_Rune.j0 (k + 1) y0 y1 y2)) ∧ (∀ y0 y1 y2, LeO (topiaryref11_Rune.l0 k y0 y1 y2) (topiaryref11_Rune.l0 (k + 1) y0 y1 y2)) ∧ (∀ y0 y1 y2 y3, LeO (topiaryref11_Rune.j2 k y0 y1 y2 y3) (topiaryref11_Rune.j2 (k + 1) y0 y1 y2 y3)) ∧ (∀ y0 y1 y2 y3 y4, LeO (topiaryref11_Rune.l1 k y0 y1 y2 y3 y4) (topiaryref11_Rune.l1 (k + 1) y0 y1 y2 y3 y4)) ∧ (∀ y0 y1 y2 y3 y4 y5, LeO (topiaryref11_Rune.j4 k y0 y1 y2 y3 y4 y5) (topiaryref11_Rune.j4 (k + 1) y0 y1 y2 y3 y4 y5))
 | 0 => ⟨fun _ _ _ r h => by simp [topiaryref11_Rune.j0] at h, fun _ _ _ r h => by simp [topiaryref11_Rune.l0] at h, fun _ _ _ _ r h => by simp [topiaryref11_Rune.j2] at h, fun _ _ _ _ _ r h => by simp [topiaryref11_Rune.l1] at h, fun _ _ _ _ _ _ r h => by simp [topiaryref11_Rune.j4] at h⟩
 | k + 1 => by
  obtain ⟨ih0, ih1, ih2, ih3, ih4⟩ := topiaryref11_Rune.mono_l k
  refine ⟨?_, ?_, ?_, ?_, ?_⟩
  ·intro y0 y1 y2
   unfold topiaryref11_Rune.j0
   repeat' first
   | (with_reducible exact ih0 _ _ _)
   | (with_reducible exact ih1 _ _ _)
   | (with_reducible exact ih2 _ _ _ _)
   | (with_reducible exact ih3 _ _ _ _ _)
   | (with_reducible exact ih4 _ _ _ _ _ _)
   | (with_reducible exact LeO.refl _)
   | (with_reducible exact LeO.none _)
   | (with_reducible refine LeO.ite ?_ ?_)
   | (with_reducible refine LeO.bind ?_ (fun _ => ?_))
   | exact ih0 _ _ _
   | exact ih1 _ _ _
   | exact ih2 _ _ _ _
   | exact ih3 _ _ _ _ _
   | exact ih4 _ _ _ _ _ _
   | exact LeO.none _
   | refine LeO.ite ?_ ?_
   | refine LeO.bind ?_ (fun _ => ?_)
  ·intro y0 y1 y2
   unfold topiaryref11_Rune.l0
   repeat' first
   | (with_reducible exact ih0 _ _ _)
   | (with_reducible exact ih1 _ _ _)
   | (with_reducible exact ih2 _ _ _ _)
   | (with_reducible exact ih3 _ _ _ _ _)
   | (with_reducible exact ih4 _ _ _ _ _ _)
   | (with_reducible exact LeO.refl _)
   | (with_reducible exact LeO.none _)
   | (with_reducible refine LeO.ite ?_ ?_)
   | (with_reducible refine LeO.bind ?_ (fun _ => ?_))
   | exact ih0 _ _ _
   | exact ih1 _ _ _
   | exact ih2 _ _ _ _
   | exact ih3 _ _ _ _ _
   | exact ih4 _ _ _ _ _ _
   | exact LeO.none _
   | refine LeO.ite ?_ ?_
   | refine LeO.bind ?_ (fun _ => ?_)
  ·intro y0 y1 y2 y3
   unfold topiaryref11_Rune.j2
   repeat' first
   | (with_reducible exact ih0 _ _ _)
   | (with_reducible exact ih1 _ _ _)
   | (with_reducible exact ih2 _ _ _ _)
   | (with_reducible exact ih3 _ _ _ _ _)
   | (with_reducible exact ih4 _ _ _ _ _ _)
   | (with_reducible exact LeO.refl _)
   | (with_reducible exact LeO.none _)
   | (with_reducible refine LeO.ite ?_ ?_)
   | (with_reducible refine LeO.bind ?_ (fun _ => ?_))
   | exact ih0 _ _ _
   | exact ih1 _ _ _
   | exact ih2 _ _ _ _
   | exact ih3 _ _ _ _ _
   | exact ih4 _ _ _ _ _ _
   | exact LeO.none _
   | refine LeO.ite ?_ ?_
   | refine LeO.bind ?_ (fun _ => ?_)
  ·intro y0 y1 y2 y3 y4
   unfold topiaryref11_Rune.l1
   repeat' first
   | (with_reducible exact ih0 _ _ _)
   | (with_reducible exact ih1 _ _ _)
   | (with_reducible exact ih2 _ _ _ _)
   | (with_reducible exact ih3 _ _ _ _ _)
   | (with_reducible exact ih4 _ _ _ _ _ _)
   | (with_reducible exact LeO.refl _)
   | (with_reducible exact LeO.none _)
   | (with_reducible refine LeO.ite ?_ ?_)
   | (with_reducible refine LeO.bind ?_ (fun _ => ?_))
   | exact ih0 _ _ _
   | exact ih1 _ _ _
   | exact ih2 _ _ _ _
   | exact ih3 _ _ _ _ _
   | exact ih4 _ _ _ _ _ _
   | exact LeO.none _
   | refine LeO.ite ?_ ?_
   | refine LeO.bind ?_ (fun _ => ?_)
  ·intro y0 y1 y2 y3 y4 y5
   unfold topiaryref11_Rune.j4
   repeat' first
   | (with_reducible exact ih0 _ _ _)
   | (with_reducible exact ih1 _ _ _)
   | (with_reducible exact ih2 _ _ _ _)
   | (with_reducible exact ih3 _ _ _ _ _)
   | (with_reducible exact ih4 _ _ _ _ _ _)
   | (with_reducible exact LeO.refl _)
   | (with_reducible exact LeO.none _)
   | (with_reducible refine LeO.ite ?_ ?_)
   | (with_reducible refine LeO.bind ?_ (fun _ => ?_))
   | exact ih0 _ _ _
   | exact ih1 _ _ _
   | exact ih2 _ _ _ _
   | exact ih3 _ _ _ _ _
   | exact ih4 _ _ _ _ _ _
   | exact LeO.none _
   | refine LeO.ite ?_ ?_
   | refine LeO.bind ?_ (fun _ => ?_)
theorem topiaryref11_Rune.mono : ∀ a0 a1 k, LeO (topiaryref11_Rune.f k a0 a1) (topiaryref11_Rune.f (k + 1) a0 a1) := by
 intro a0 a1 k
 obtain ⟨ih0, ih1, ih2, ih3, ih4⟩ := topiaryref11_Rune.mono_l k
 unfold topiaryref11_Rune.f
 repeat' first
  | (with_reducible exact ih0 _ _ _)
  | (with_reducible exact ih1 _ _ _)
  | (with_reducible exact ih2 _ _ _ _)
  | (with_reducible exact ih3 _ _ _ _ _)
  | (with_reducible exact ih4 _ _ _ _ _ _)
  | (with_reducible exact LeO.refl _)
  | (with_reducible exact LeO.none _)
  | (with_reducible refine LeO.ite ?_ ?_)
  | (with_reducible refine LeO.bind ?_ (fun _ => ?_))
  | exact ih0 _ _ _
  | exact ih1 _ _ _
  | exact ih2 _ _ _ _
  | exact ih3 _ _ _ _ _
  | exact ih4 _ _ _ _ _ _
  | exact LeO.none _
  | refine LeO.ite ?_ ?_
  | refine LeO.bind ?_ (fun _ => ?_)
def topiaryref11_Valid.l0 : Nat → ByteArray → Int → Option (Bool)
 | 0, _, _ => none
 | k + 1, x0, x3 => if x3 < (x0.size : Int) then ((topiaryref11_Rune.f k x0 x3).bind fun bt168 => ((topiaryref11_Allowed.f bt168.1).bind fun t170 => (if bt168.2 = 0 then (some false) else (if t170 = true then (topiaryref11_Valid.l0 k x0 (wrap64 (x3 + bt168.2))) else (some false))))) else (some true)
def topiaryref11_Valid.f (k : Nat) (a0 : ByteArray) : Option (Bool) := topiaryref11_Valid.l0 k a0 0
theorem topiaryref11_Valid.mono_l : ∀ k, (∀ y0 y1, LeO (topiaryref11_Valid.l0 k y0 y1) (topiaryref11_Valid.l0 (k + 1) y0 y1))
 | 0 => fun _ _ r h => by simp [topiaryref11_Valid.l0] at h
 | k + 1 => by
  have ih0 := topiaryref11_Valid.mono_l k
  ·intro y0 y1
   unfold topiaryref11_Valid.l0
   repeat' first
   | (with_reducible exact ih0 _ _)
   | (with_reducible exact topiaryref11_Rune.mono _ _ _)
   | (with_reducible exact LeO.refl _)
   | (with_reducible exact LeO.none _)
   | (with_reducible refine LeO.ite ?_ ?_)
   | (with_reducible refine LeO.bind ?_ (fun _ => ?_))
   | exact ih0 _ _
   | exact topiaryref11_Rune.mono _ _ _
   | exact LeO.none _
   | refine LeO.ite ?_ ?_
   | refine LeO.bind ?_ (fun _ => ?_)
theorem topiaryref11_Valid.mono : ∀ a0 k, LeO (topiaryref11_Valid.f k a0) (topiaryref11_Valid.f (k + 1) a0) := by
 intro a0 k
 have ih0 := topiaryref11_Valid.mono_l k
 unfold topiaryref11_Valid.f
 repeat' first
  | (with_reducible exact ih0 _ _)
  | (with_reducible exact topiaryref11_Rune.mono _ _ _)
  | (with_reducible exact LeO.refl _)
  | (with_reducible exact LeO.none _)
  | (with_reducible refine LeO.ite ?_ ?_)
  | (with_reducible refine LeO.bind ?_ (fun _ => ?_))
  | exact ih0 _ _
  | exact topiaryref11_Rune.mono _ _ _
  | exact LeO.none _
  | refine LeO.ite ?_ ?_
  | refine LeO.bind ?_ (fun _ => ?_)
mutual
def topiaryref11_NameEnd.l0 : Nat → ByteArray → Int → Int → Option (Int)
 | 0, _, _, _ => none
 | k + 1, x0, x1, x5 => if x5 ≥ 0 then (topiaryref11_NameEnd.j1 k x0 x1 x5 (decide (x5 < (x0.size : Int)))) else (topiaryref11_NameEnd.j1 k x0 x1 x5 false)
def topiaryref11_NameEnd.j1 : Nat → ByteArray → Int → Int → Bool → Option (Int)
 | 0, _, _, _, _ => none
 | k + 1, x0, x1, x5, x17 => if x17 = true then (if 0 ≤ x5 then (if x5 < (x0.size : Int) then (if (bt x0 x5) ≥ 97 then (if (bt x0 x5) ≤ 122 then (if (bt x0 x5) ≥ 48 then (if (bt x0 x5) ≤ 57 then (topiaryref11_NameEnd.l0 k x0 x1 (wrap64 (x5 + 1))) else (if (bt x0 x5) = 45 then (topiaryref11_NameEnd.l0 k x0 x1 (wrap64 (x5 + 1))) else (topiaryref11_NameEnd.l0 k x0 x1 (wrap64 (x5 + 1))))) else (if (bt x0 x5) = 45 then (topiaryref11_NameEnd.l0 k x0 x1 (wrap64 (x5 + 1))) else (topiaryref11_NameEnd.l0 k x0 x1 (wrap64 (x5 + 1))))) else (if (bt x0 x5) ≥ 65 then (if (bt x0 x5) ≤ 90 then (if (bt x0 x5) ≥ 48 then (if (bt x0 x5) ≤ 57 then (topiaryref11_NameEnd.l0 k x0 x1 (wrap64 (x5 + 1))) else (if (bt x0 x5) = 45 then (topiaryref11_NameEnd.l0 k x0 x1 (wrap64 (x5 + 1))) else (topiaryref11_NameEnd.l0 k x0 x1 (wrap64 (x5 + 1))))) else (if (bt x0 x5) = 45 then (topiaryref11_NameEnd.l0 k x0 x1 (wrap64 (x5 + 1))) else (topiaryref11_NameEnd.l0 k x0 x1 (wrap64 (x5 + 1))))) else (if (bt x0 x5) ≥ 48 then (if (bt x0 x5) ≤ 57 then (if ((bt x0 x5) = 95) then (topiaryref11_NameEnd.l0 k x0 x1 (wrap64 (x5 + 1))) else (if x5 = x1 then (some x5) else (topiaryref11_NameEnd.l0 k x0 x1 (wrap64 (x5 + 1))))) else (if (bt x0 x5) = 45 then (if ((bt x0 x5) = 95) then (topiaryref11_NameEnd.l0 k x0 x1 (wrap64 (x5 + 1))) else (if x5 = x1 then (some x5) else (topiaryref11_NameEnd.l0 k x0 x1 (wrap64 (x5 + 1))))) else (if ((bt x0 x5) = 95) then (topiaryref11_NameEnd.l0 k x0 x1 (wrap64 (x5 + 1))) else (if ((bt x0 x5) = 46) then (if x5 = x1 then (some x5) else (topiaryref11_NameEnd.l0 k x0 x1 (wrap64 (x5 + 1)))) else (some x5))))) else (if (bt x0 x5) = 45 then (if ((bt x0 x5) = 95) then (topiaryref11_NameEnd.l0 k x0 x1 (wrap64 (x5 + 1))) else (if x5 = x1 then (some x5) else (topiaryref11_NameEnd.l0 k x0 x1 (wrap64 (x5 + 1))))) else (if ((bt x0 x5) = 95) then (topiaryref11_NameEnd.l0 k x0 x1 (wrap64 (x5 + 1))) else (if ((bt x0 x5) = 46) then (if x5 = x1 then (some x5) else (topiaryref11_NameEnd.l0 k x0 x1 (wrap64 (x5 + 1)))) else (some x5)))))) else (if (bt x0 x5) ≥ 48 then (if (bt x0 x5) ≤ 57 then (if ((bt x0 x5) = 95) then (topiaryref11_NameEnd.l0 k x0 x1 (wrap64 (x5 + 1))) else (if x5 = x1 then (some x5) else (topiaryref11_NameEnd.l0 k x0 x1 (wrap64 (x5 + 1))))) else (if (bt x0 x5) = 45 then (if ((bt x0 x5) = 95) then (topiaryref11_NameEnd.l0 k x0 x1 (wrap64 (x5 + 1))) else (if x5 = x1 then (some x5) else (topiaryref11_NameEnd.l0 k x0 x1 (wrap64 (x5 + 1))))) else (if ((bt x0 x5) = 95) then (topiaryref11_NameEnd.l0 k x0 x1 (wrap64 (x5 + 1))) else (if ((bt x0 x5) = 46) then (if x5 = x1 then (some x5) else (topiaryref11_NameEnd.l0 k x0 x1 (wrap64 (x5 + 1)))) else (some x5))))) else (if (bt x0 x5) = 45 then (if ((bt x0 x5) = 95) then (topiaryref11_NameEnd.l0 k x0 x1 (wrap64 (x5 + 1))) else (if x5 = x1 then (some x5) else (topiaryref11_NameEnd.l0 k x0 x1 (wrap64 (x5 + 1))))) else (if ((bt x0 x5) = 95) then (topiaryref11_NameEnd.l0 k x0 x1 (wrap64 (x5 + 1))) else (if ((bt x0 x5) = 46) then (if x5 = x1 then (some x5) else (topiaryref11_NameEnd.l0 k x0 x1 (wrap64 (x5 + 1)))) else (some x5))))))) else (if (bt x0 x5) ≥ 65 then (if (bt x0 x5) ≤ 90 then (if (bt x0 x5) ≥ 48 then (if (bt x0 x5) ≤ 57 then (topiaryref11_NameEnd.l0 k x0 x1 (wrap64 (x5 + 1))) else (if (bt x0 x5) = 45 then (topiaryref11_NameEnd.l0 k x0 x1 (wrap64 (x5 + 1))) else (topiaryref11_NameEnd.l0 k x0 x1 (wrap64 (x5 + 1))))) else (if (bt x0 x5) = 45 then (topiaryref11_NameEnd.l0 k x0 x1 (wrap64 (x5 + 1))) else (topiaryref11_NameEnd.l0 k x0 x1 (wrap64 (x5 + 1))))) else (if (bt x0 x5) ≥ 48 then (if (bt x0 x5) ≤ 57 then (if ((bt x0 x5) = 95) then (topiaryref11_NameEnd.l0 k x0 x1 (wrap64 (x5 + 1))) else (if x5 = x1 then (some x5) else (topiaryref11_NameEnd.l0 k x0 x1 (wrap64 (x5 + 1))))) else (if (bt x0 x5) = 45 then (if ((bt x0 x5) = 95) then (topiaryref11_NameEnd.l0 k x0 x1 (wrap64 (x5 + 1))) else (if x5 = x1 then (some x5) else (topiaryref11_NameEnd.l0 k x0 x1 (wrap64 (x5 + 1))))) else (if ((bt x0 x5) = 95) then (topiaryref11_NameEnd.l0 k x0 x1 (wrap64 (x5 + 1))) else (if ((bt x0 x5) = 46) then (if x5 = x1 then (some x5) else (topiaryref11_NameEnd.l0 k x0 x1 (wrap64 (x5 + 1)))) else (some x5))))) else (if (bt x0 x5) = 45 then (if ((bt x0 x5) = 95) then (topiaryref11_NameEnd.l0 k x0 x1 (wrap64 (x5 + 1))) else (if x5 = x1 then (some x5) else (topiaryref11_NameEnd.l0 k x0 x1 (wrap64 (x5 + 1))))) else (if ((bt x0 x5) = 95) then (topiaryref11_NameEnd.l0 k x0 x1 (wrap64 (x5 + 1))) else (if ((bt x0 x5) = 46) then (if x5 = x1 then (some x5) else (topiaryref11_NameEnd.l0 k x0 x1 (wrap64 (x5 + 1)))) else (some x5)))))) else (if (bt x0 x5) ≥ 48 then (if (bt x0 x5) ≤ 57 then (if ((bt x0 x5) = 95) then (topiaryref11_NameEnd.l0 k x0 x1 (wrap64 (x5 + 1))) else (if x5 = x1 then (some x5) else (topiaryref11_NameEnd.l0 k x0 x1 (wrap64 (x5 + 1))))) else (if (bt x0 x5) = 45 then (if ((bt x0 x5) = 95) then (topiaryref11_NameEnd.l0 k x0 x1 (wrap64 (x5 + 1))) else (if x5 = x1 then (some x5) else (topiaryref11_NameEnd.l0 k x0 x1 (wrap64 (x5 + 1))))) else (if ((bt x0 x5) = 95) then (topiaryref11_NameEnd.l0 k x0 x1 (wrap64 (x5 + 1))) else (if ((bt x0 x5) = 46) then (if x5 = x1 then (some x5) else (topiaryref11_NameEnd.l0 k x0 x1 (wrap64 (x5 + 1)))) else (some x5))))) else (if (bt x0 x5) = 45 then (if ((bt x0 x5) = 95) then (topiaryref11_NameEnd.l0 k x0 x1 (wrap64 (x5 + 1))) else (if x5 = x1 then (some x5) else (topiaryref11_NameEnd.l0 k x0 x1 (wrap64 (x5 + 1))))) else (if ((bt x0 x5) = 95) then (topiaryref11_NameEnd.l0 k x0 x1 (wrap64 (x5 + 1))) else (if ((bt x0 x5) = 46) then (if x5 = x1 then (some x5) else (topiaryref11_NameEnd.l0 k x0 x1 (wrap64 (x5 + 1)))) else (some x5))))))) else (none)) else (none)) else (some x5)
end
def topiaryref11_NameEnd.f (k : Nat) (a0 : ByteArray) (a1 : Int) : Option (Int) := topiaryref11_NameEnd.l0 k a0 a1 a1
theorem topiaryref11_NameEnd.mono_l : ∀ k, (∀ y0 y1 y2, LeO (topiaryref11_NameEnd.l0 k y0 y1 y2) (topiaryref11_NameEnd.l0 (k + 1) y0 y1 y2)) ∧ (∀ y0 y1 y2 y3, LeO (topiaryref11_NameEnd.j1 k y0 y1 y2 y3) (topiaryref11_NameEnd.j1 (k + 1) y0 y1 y2 y3))
 | 0 => ⟨fun _ _ _ r h => by simp [topiaryref11_NameEnd.l0] at h, fun _ _ _ _ r h => by simp [topiaryref11_NameEnd.j1] at h⟩
 | k + 1 => by
  obtain ⟨ih0, ih1⟩ := topiaryref11_NameEnd.mono_l k
  refine ⟨?_, ?_⟩
  ·intro y0 y1 y2
   unfold topiaryref11_NameEnd.l0
   repeat' first
   | (with_reducible exact ih0 _ _ _)
   | (with_reducible exact ih1 _ _ _ _)
   | (with_reducible exact LeO.refl _)
   | (with_reducible exact LeO.none _)
   | (with_reducible refine LeO.ite ?_ ?_)
   | (with_reducible refine LeO.bind ?_ (fun _ => ?_))
   | exact ih0 _ _ _
   | exact ih1 _ _ _ _
   | exact LeO.none _
   | refine LeO.ite ?_ ?_
   | refine LeO.bind ?_ (fun _ => ?_)
  ·intro y0 y1 y2 y3
   unfold topiaryref11_NameEnd.j1
   repeat' first
   | (with_reducible exact ih0 _ _ _)
   | (with_reducible exact ih1 _ _ _ _)
   | (with_reducible exact LeO.refl _)
   | (with_reducible exact LeO.none _)
   | (with_reducible refine LeO.ite ?_ ?_)
   | (with_reducible refine LeO.bind ?_ (fun _ => ?_))
   | exact ih0 _ _ _
   | exact ih1 _ _ _ _
   | exact LeO.none _
   | refine LeO.ite ?_ ?_
   | refine LeO.bind ?_ (fun _ => ?_)
theorem topiaryref11_NameEnd.mono : ∀ a0 a1 k, LeO (topiaryref11_NameEnd.f k a0 a1) (topiaryref11_NameEnd.f (k + 1) a0 a1) := by
 intro a0 a1 k
 obtain ⟨ih0, ih1⟩ := topiaryref11_NameEnd.mono_l k
 unfold topiaryref11_NameEnd.f
 repeat' first
  | (with_reducible exact ih0 _ _ _)
  | (with_reducible exact ih1 _ _ _ _)
  | (with_reducible exact LeO.refl _)
  | (with_reducible exact LeO.none _)
  | (with_reducible refine LeO.ite ?_ ?_)
  | (with_reducible refine LeO.bind ?_ (fun _ => ?_))
  | exact ih0 _ _ _
  | exact ih1 _ _ _ _
  | exact LeO.none _
  | refine LeO.ite ?_ ?_
  | refine LeO.bind ?_ (fun _ => ?_)
def topiaryref11_Space.f (a0 : Int) : Option (Bool) := if a0 = 32 then (some true) else (if a0 = 9 then (some true) else (if a0 = 10 then (some true) else (some (a0 == 13))))
end Go.Proofs.YtlhhhlimjajnlaaGreat.Q
end
section
namespace Go.Proofs.YtlhhhlimjajnlaaGreat.X
end Go.Proofs.YtlhhhlimjajnlaaGreat.X
namespace Go.Proofs.YtlhhhlimjajnlaaGreat.Q
open Go.RowKit Go.Proofs.YtlhhhlimjajnlaaGreatW.PrintWords Go.Proofs.YtlhhhlimjajnlaaGreatW.PrintLast Go.Proofs.YtlhhhlimjajnlaaGreatW.PrintMore
attribute [local go_sem] max2_int min2_int max_two min_two max_three min_three max_four min_four   
open Go.Proofs.YtlhhhlimjajnlaaGreat.X
set_option linter.unusedVariables false
set_option linter.unusedSimpArgs false
mutual
def topiaryref11_Skip.l0 : Nat → ByteArray → Int → Option (Int)
  | 0, _, _ => none
  | k + 1, x0, x1 => if x1 ≥ 0 then (topiaryref11_Skip.j1 k x0 x1 (decide (x1 < (x0.size : Int)))) else (topiaryref11_Skip.j1 k x0 x1 false)
def topiaryref11_Skip.j1 : Nat → ByteArray → Int → Bool → Option (Int)
  | 0, _, _, _ => none
  | k + 1, x0, x1, x13 => if x13 = true then (if 0 ≤ x1 then (if x1 < (x0.size : Int) then ((topiaryref11_Space.f (bt x0 x1)).bind fun t171 => (if t171 = true then (topiaryref11_Skip.l0 k x0 (wrap64 (x1 + 1))) else (some x1))) else (none)) else (none)) else (some x1)
end
def topiaryref11_Skip.f (k : Nat) (a0 : ByteArray) (a1 : Int) : Option (Int) := topiaryref11_Skip.l0 k a0 a1
theorem topiaryref11_Skip.mono_l : ∀ k, (∀ y0 y1, LeO (topiaryref11_Skip.l0 k y0 y1) (topiaryref11_Skip.l0 (k + 1) y0 y1)) ∧ (∀ y0 y1 y2, LeO (topiaryref11_Skip.j1 k y0 y1 y2) (topiaryref11_Skip.j1 (k + 1) y0 y1 y2))
  | 0 => ⟨fun _ _ r h => by simp [topiaryref11_Skip.l0] at h, fun _ _ _ r h => by simp [topiaryref11_Skip.j1] at h⟩
  | k + 1 => by
    obtain ⟨ih0, ih1⟩ := topiaryref11_Skip.mono_l k
    refine ⟨?_, ?_⟩
    · intro y0 y1
      unfold topiaryref11_Skip.l0
      repeat' first
      | (with_reducible exact ih0 _ _)
      | (with_reducible exact ih1 _ _ _)
      | (with_reducible exact LeO.refl _)
      | (with_reducible exact LeO.none _)
      | (with_reducible refine LeO.ite ?_ ?_)
      | (with_reducible refine LeO.bind ?_ (fun _ => ?_))
      | exact ih0 _ _
      | exact ih1 _ _ _
      | exact LeO.none _
      | refine LeO.ite ?_ ?_
      | refine LeO.bind ?_ (fun _ => ?_)
    · intro y0 y1 y2
      unfold topiaryref11_Skip.j1
      repeat' first
      | (with_reducible exact ih0 _ _)
      | (with_reducible exact ih1 _ _ _)
      | (with_reducible exact LeO.refl _)
      | (with_reducible exact LeO.none _)
      | (with_reducible refine LeO.ite ?_ ?_)
      | (with_reducible refine LeO.bind ?_ (fun _ => ?_))
      | exact ih0 _ _
      | exact ih1 _ _ _
      | exact LeO.none _
      | refine LeO.ite ?_ ?_
      | refine LeO.bind ?_ (fun _ => ?_)
theorem topiaryref11_Skip.mono : ∀ a0 a1 k, LeO (topiaryref11_Skip.f k a0 a1) (topiaryref11_Skip.f (k + 1) a0 a1) := by
  intro a0 a1 k
  obtain ⟨ih0, ih1⟩ := topiaryref11_Skip.mono_l k
  unfold topiaryref11_Skip.f
  repeat' first
      | (with_reducible exact ih0 _ _)
      | (with_reducible exact ih1 _ _ _)
      | (with_reducible exact LeO.refl _)
      | (with_reducible exact LeO.none _)
      | (with_reducible refine LeO.ite ?_ ?_)
      | (with_reducible refine LeO.bind ?_ (fun _ => ?_))
      | exact ih0 _ _
      | exact ih1 _ _ _
      | exact LeO.none _
      | refine LeO.ite ?_ ?_
      | refine LeO.bind ?_ (fun _ => ?_)
end Go.Proofs.YtlhhhlimjajnlaaGreat.Q
end
section
namespace Go.Proofs.YtlhhhlimjajnlaaGreat.X
end Go.Proofs.YtlhhhlimjajnlaaGreat.X
namespace Go.Proofs.YtlhhhlimjajnlaaGreat.Q
open Go.RowKit Go.Proofs.YtlhhhlimjajnlaaGreatW.PrintWords Go.Proofs.YtlhhhlimjajnlaaGreatW.PrintLast Go.Proofs.YtlhhhlimjajnlaaGreatW.PrintMore
attribute [local go_sem] max2_int min2_int max_two min_two max_three min_three max_four min_four   
open Go.Proofs.YtlhhhlimjajnlaaGreat.X
set_option linter.unusedVariables false
set_option linter.unusedSimpArgs false
def chars_point.f (a0 : Int) : Option (Bool) := if a0 ≥ 0 then (if a0 ≤ 1114111 then (if a0 < 55296 then (some true) else (some (decide (a0 > 57343)))) else (some false)) else (some false)
set_option maxHeartbeats 8000000 in
set_option maxRecDepth 100000 in
theorem chars_point.calls (a0 : Int) (r : Bool) (w : World) (h : chars_point.f a0 = some r) :
    Calls Tryz.prog 100 #[.int .i64 a0] w fun e w' => e = .returned (.bool r) ∧ Drawn0 w w' := by
  have H : (if a0 ≥ 0 then (if a0 ≤ 1114111 then (if a0 < 55296 then (some true) else (some (decide (a0 > 57343)))) else (some false)) else (some false)) = some r := h
  clear h
  by_cases c2 : a0 ≥ 0
  · rw [if_pos c2] at H
    have c2b0 : decide (0 ≤ a0) = true := decide_eq_true c2
    clear c2
    by_cases c3 : a0 ≤ 1114111
    · rw [if_pos c3] at H
      have c3b0 : decide (a0 ≤ 1114111) = true := decide_eq_true c3
      clear c3
      by_cases c4 : a0 < 55296
      · rw [if_pos c4] at H
        have c4b0 : decide (a0 < 55296) = true := decide_eq_true c4
        clear c4
        obtain rfl := Option.some.inj H
        go_enter Tryz.func100, Tryz.ntmps100
        go_wp2
        go_ret
        exact ⟨by first | rfl | (simp; done) | (simp [*]; done), by repeat (first | exact Drawn0.refl _ | apply Drawn0.step)⟩
      · rw [if_neg c4] at H
        have c4b0 : decide (a0 < 55296) = false := decide_eq_false c4
        clear c4
        obtain rfl := Option.some.inj H
        go_enter Tryz.func100, Tryz.ntmps100
        go_wp2
        go_ret
        exact ⟨by first | rfl | (simp; done) | (simp [*]; done), by repeat (first | exact Drawn0.refl _ | apply Drawn0.step)⟩
    · rw [if_neg c3] at H
      have c3b0 : decide (a0 ≤ 1114111) = false := decide_eq_false c3
      clear c3
      obtain rfl := Option.some.inj H
      go_enter Tryz.func100, Tryz.ntmps100
      go_wp2
      go_ret
      exact ⟨by first | rfl | (simp; done) | (simp [*]; done), by repeat (first | exact Drawn0.refl _ | apply Drawn0.step)⟩
  · rw [if_neg c2] at H
    have c2b0 : decide (0 ≤ a0) = false := decide_eq_false c2
    clear c2
    obtain rfl := Option.some.inj H
    go_enter Tryz.func100, Tryz.ntmps100
    go_wp2
    go_ret
    exact ⟨by first | rfl | (simp; done) | (simp [*]; done), by repeat (first | exact Drawn0.refl _ | apply Drawn0.step)⟩
def chars_Allowed.j0 : Nat → Int → Bool → Option (Bool)
  | 0, _, _ => none
  | k + 1, x0, x3 => if x3 = true then (some true) else (if x0 < 32 then (some false) else (if x0 = 65534 then (some false) else (if x0 = 65535 then (some false) else ((chars_point.f x0).bind fun t117 => (some t117)))))
def chars_Allowed.f (k : Nat) (a0 : Int) : Option (Bool) := if a0 = 9 then (chars_Allowed.j0 k a0 true) else (if a0 = 10 then (chars_Allowed.j0 k a0 true) else (chars_Allowed.j0 k a0 (a0 == 13)))
theorem chars_Allowed.mono_l : ∀ k, (∀ y0 y1, LeO (chars_Allowed.j0 k y0 y1) (chars_Allowed.j0 (k + 1) y0 y1))
  | 0 => fun _ _ r h => by simp [chars_Allowed.j0] at h
  | k + 1 => by
    have ih0 := chars_Allowed.mono_l k
    · intro y0 y1
      unfold chars_Allowed.j0
      repeat' first
      | (with_reducible exact ih0 _ _)
      | (with_reducible exact LeO.refl _)
      | (with_reducible exact LeO.none _)
      | (with_reducible refine LeO.ite ?_ ?_)
      | (with_reducible refine LeO.bind ?_ (fun _ => ?_))
      | exact ih0 _ _
      | exact LeO.none _
      | refine LeO.ite ?_ ?_
      | refine LeO.bind ?_ (fun _ => ?_)
theorem chars_Allowed.mono : ∀ a0 k, LeO (chars_Allowed.f k a0) (chars_Allowed.f (k + 1) a0) := by
  intro a0 k
  have ih0 := chars_Allowed.mono_l k
  unfold chars_Allowed.f
  repeat' first
      | (with_reducible exact ih0 _ _)
      | (with_reducible exact LeO.refl _)
      | (with_reducible exact LeO.none _)
      | (with_reducible refine LeO.ite ?_ ?_)
      | (with_reducible refine LeO.bind ?_ (fun _ => ?_))
      | exact ih0 _ _
      | exact LeO.none _
      | refine LeO.ite ?_ ?_
      | refine LeO.bind ?_ (fun _ => ?_)
set_option maxHeartbeats 8000000 in
set_option maxRecDepth 100000 in
theorem chars_Allowed.calls (k : Nat) (a0 : Int) (r : Bool) (w : World) (h : chars_Allowed.f k a0 = some r) :
    Calls Tryz.prog 74 #[.int .i64 a0] w fun e w' => e = .returned (.bool r) ∧ Drawn0 w w' := by
  have H : (if a0 = 9 then (chars_Allowed.j0 k a0 true) else (if a0 = 10 then (chars_Allowed.j0 k a0 true) else (chars_Allowed.j0 k a0 (a0 == 13)))) = some r := h
  clear h
  have HC2 := Aside0.mk H
  clear H
  go_enter Tryz.func74, Tryz.ntmps74
  go_upto_region 1 with (fail)
  go_cut [3] (fun v3 wc => ∃ (kq : Nat) (x3_1 : Bool), v3 = .bool x3_1 ∧ Aside0 (chars_Allowed.j0 kq a0 x3_1 = some r) ∧ Aside0 (kq ≤ k) ∧ Drawn0 w wc)
  case first =>
    have H := HC2.out
    clear HC2
    by_cases c3 : a0 = 9
    · rw [if_pos c3] at H
      have c3b0 : (a0 == 9) = true := beq_iff_eq.mpr c3
      have c3b1 : (a0 != 9) = false := bne_eq_false_iff_eq.mpr c3
      clear c3
      (first | rw [c3b0] | (simp only [i64_w, i32_w]; rw [c3b0]) | skip)
      have H' := Aside0.mk H
      clear H
      go_wp2
      go_meet
      case rel => exact ⟨_, (true), (by first | rfl | (simp; done) | (simp [*]; done)), H', ⟨by first | omega | exact Nat.le_refl _⟩, by repeat (first | exact Drawn0.refl _ | apply Drawn0.step)⟩
    · rw [if_neg c3] at H
      have c3b0 : (a0 == 9) = false := beq_eq_false_iff_ne.mpr c3
      have c3b1 : (a0 != 9) = true := bne_iff_ne.mpr c3
      (first | rw [c3b0] | (simp only [i64_w, i32_w]; rw [c3b0]) | skip)
      by_cases c4 : a0 = 10
      · rw [if_pos c4] at H
        have c4b0 : (a0 == 10) = true := beq_iff_eq.mpr c4
        have c4b1 : (a0 != 10) = false := bne_eq_false_iff_eq.mpr c4
        clear c4
        have H' := Aside0.mk H
        clear H
        go_wp2
        go_meet
        case rel => exact ⟨_, (true), (by first | rfl | (simp; done) | (simp [*]; done)), H', ⟨by first | omega | exact Nat.le_refl _⟩, by repeat (first | exact Drawn0.refl _ | apply Drawn0.step)⟩
      · rw [if_neg c4] at H
        have c4b0 : (a0 == 10) = false := beq_eq_false_iff_ne.mpr c4
        have c4b1 : (a0 != 10) = true := bne_iff_ne.mpr c4
        have H' := Aside0.mk H
        clear H
        go_wp2
        go_meet
        case rel => exact ⟨_, ((a0 == 13)), (by first | rfl | (simp; done) | (simp [*]; done)), H', ⟨by first | omega | exact Nat.le_refl _⟩, by repeat (first | exact Drawn0.refl _ | apply Drawn0.step)⟩
  case rest =>
    clear HC2
    try clear p2
    try clear c3
    try clear c3b0
    try clear c3b1
    try clear c4
    try clear c4b0
    try clear c4b1
    obtain ⟨kq, x3_1, rfl, HA, HJ1, ⟨mc1, rfl⟩⟩ := hcut
    cases kq with
    | zero => exact absurd HA.out (by simp [chars_Allowed.j0])
    | succ kj1 =>
      have H := HA.out
      clear HA
      simp only [chars_Allowed.j0] at H
      by_cases c5 : x3_1 = true
      · subst c5
        have H1 : (some true) = some r := by rw [if_pos rfl] at H; exact H
        clear H
        have H := H1
        clear H1
        obtain rfl := Option.some.inj H
        go_wp2
        go_ret
        exact ⟨by first | rfl | (simp; done) | (simp [*]; done), by repeat (first | exact Drawn0.refl _ | apply Drawn0.step)⟩
      · replace c5 := Bool.eq_false_iff.mpr c5
        subst c5
        have H1 : (if a0 < 32 then (some false) else (if a0 = 65534 then (some false) else (if a0 = 65535 then (some false) else ((chars_point.f a0).bind fun t117 => (some t117))))) = some r := by rw [if_neg (show ¬ (false = true) by decide)] at H; exact H
        clear H
        have H := H1
        clear H1
        by_cases c6 : a0 < 32
        · rw [if_pos c6] at H
          have c6b0 : decide (a0 < 32) = true := decide_eq_true c6
          clear c6
          obtain rfl := Option.some.inj H
          go_wp2
          go_ret
          exact ⟨by first | rfl | (simp; done) | (simp [*]; done), by repeat (first | exact Drawn0.refl _ | apply Drawn0.step)⟩
        · rw [if_neg c6] at H
          have c6b0 : decide (a0 < 32) = false := decide_eq_false c6
          clear c6
          by_cases c7 : a0 = 65534
          · rw [if_pos c7] at H
            have c7b0 : (a0 == 65534) = true := beq_iff_eq.mpr c7
            have c7b1 : (a0 != 65534) = false := bne_eq_false_iff_eq.mpr c7
            clear c7
            obtain rfl := Option.some.inj H
            go_wp2
            go_ret
            exact ⟨by first | rfl | (simp; done) | (simp [*]; done), by repeat (first | exact Drawn0.refl _ | apply Drawn0.step)⟩
          · rw [if_neg c7] at H
            have c7b0 : (a0 == 65534) = false := beq_eq_false_iff_ne.mpr c7
            have c7b1 : (a0 != 65534) = true := bne_iff_ne.mpr c7
            by_cases c8 : a0 = 65535
            · rw [if_pos c8] at H
              have c8b0 : (a0 == 65535) = true := beq_iff_eq.mpr c8
              have c8b1 : (a0 != 65535) = false := bne_eq_false_iff_eq.mpr c8
              clear c8
              obtain rfl := Option.some.inj H
              go_wp2
              go_ret
              exact ⟨by first | rfl | (simp; done) | (simp [*]; done), by repeat (first | exact Drawn0.refl _ | apply Drawn0.step)⟩
            · rw [if_neg c8] at H
              have c8b0 : (a0 == 65535) = false := beq_eq_false_iff_ne.mpr c8
              have c8b1 : (a0 != 65535) = true := bne_iff_ne.mpr c8
              replace H := Option.bind_eq_some_iff.mp H
              obtain ⟨t117, A90, H⟩ := H
              replace H : (some t117) = some r := H
              have A9 := Aside0.mk A90
              clear A90
              obtain rfl := Option.some.inj H
              go_wp2_with (first | ((with_reducible refine gate_callee (f := 100) rfl ?_); refine goesL_ (some 26) rfl rfl Tryz.func100 (by kernel_rfl) rfl #[.int .i64 a0] rfl (by (try simp only [List.map_toArray, List.map_cons, List.map_nil]); first | done | rfl | (simp only [List.length_drop, List.length_take]; rfl)) ?_; (with_reducible refine (chars_point.calls a0 t117 _ A9.out).mono ?_); rintro e w' ⟨rfl, ⟨nd, rfl⟩⟩; refine ⟨_, rfl, ?_⟩))
              go_ret
              exact ⟨by first | rfl | (simp; done) | (simp [*]; done), by repeat (first | exact Drawn0.refl _ | apply Drawn0.step)⟩
end Go.Proofs.YtlhhhlimjajnlaaGreat.Q
end
section
namespace Go.Proofs.YtlhhhlimjajnlaaGreat.X
end Go.Proofs.YtlhhhlimjajnlaaGreat.X
namespace Go.Proofs.YtlhhhlimjajnlaaGreat.Q
open Go.RowKit Go.Proofs.YtlhhhlimjajnlaaGreatW.PrintWords Go.Proofs.YtlhhhlimjajnlaaGreatW.PrintLast Go.Proofs.YtlhhhlimjajnlaaGreatW.PrintMore
attribute [local go_sem] max2_int min2_int max_two min_two max_three min_three max_four min_four   
open Go.Proofs.YtlhhhlimjajnlaaGreat.X
set_option linter.unusedVariables false
set_option linter.unusedSimpArgs false
def chars_named.f (a0 : ByteArray) : Option (ByteArray) := if a0.toList = ([108, 116] : List UInt8) then (some (⟨#[60]⟩ : ByteArray)) else (if a0.toList = ([103, 116] : List UInt8) then (some (⟨#[62]⟩ : ByteArray)) else (if a0.toList = ([97, 109, 112] : List UInt8) then (some (⟨#[38]⟩ : ByteArray)) else (if a0.toList = ([113, 117, 111, 116] : List UInt8) then (some (⟨#[34]⟩ : ByteArray)) else (if a0.toList = ([97, 112, 111, 115] : List UInt8) then (some (⟨#[39]⟩ : ByteArray)) else (some (⟨#[]⟩ : ByteArray))))))
set_option maxHeartbeats 8000000 in
set_option maxRecDepth 100000 in
theorem chars_named.calls (a0 : ByteArray) (r : ByteArray) (w : World) (h : chars_named.f a0 = some r) :
    Calls Tryz.prog 142 #[.string a0] w fun e w' => e = .returned (.string r) ∧ Drawn0 w w' := by
  have H : (if a0.toList = ([108, 116] : List UInt8) then (some (⟨#[60]⟩ : ByteArray)) else (if a0.toList = ([103, 116] : List UInt8) then (some (⟨#[62]⟩ : ByteArray)) else (if a0.toList = ([97, 109, 112] : List UInt8) then (some (⟨#[38]⟩ : ByteArray)) else (if a0.toList = ([113, 117, 111, 116] : List UInt8) then (some (⟨#[34]⟩ : ByteArray)) else (if a0.toList = ([97, 112, 111, 115] : List UInt8) then (some (⟨#[39]⟩ : ByteArray)) else (some (⟨#[]⟩ : ByteArray))))))) = some r := h
  clear h
  by_cases c2 : a0.toList = ([108, 116] : List UInt8)
  · rw [if_pos c2] at H
    have c2b0 : (a0.toList == ([108, 116] : List UInt8)) = true := beq_iff_eq.mpr c2
    have c2b1 : (a0.toList != ([108, 116] : List UInt8)) = false := bne_eq_false_iff_eq.mpr c2
    clear c2
    obtain rfl := Option.some.inj H
    go_enter Tryz.func142, Tryz.ntmps142
    go_wp2
    go_ret
    exact ⟨by first | rfl | (simp; done) | (simp [*]; done), by repeat (first | exact Drawn0.refl _ | apply Drawn0.step)⟩
  · rw [if_neg c2] at H
    have c2b0 : (a0.toList == ([108, 116] : List UInt8)) = false := beq_eq_false_iff_ne.mpr c2
    have c2b1 : (a0.toList != ([108, 116] : List UInt8)) = true := bne_iff_ne.mpr c2
    by_cases c3 : a0.toList = ([103, 116] : List UInt8)
    · rw [if_pos c3] at H
      have c3b0 : (a0.toList == ([103, 116] : List UInt8)) = true := beq_iff_eq.mpr c3
      have c3b1 : (a0.toList != ([103, 116] : List UInt8)) = false := bne_eq_false_iff_eq.mpr c3
      clear c3
      obtain rfl := Option.some.inj H
      go_enter Tryz.func142, Tryz.ntmps142
      go_wp2
      go_ret
      exact ⟨by first | rfl | (simp; done) | (simp [*]; done), by repeat (first | exact Drawn0.refl _ | apply Drawn0.step)⟩
    · rw [if_neg c3] at H
      have c3b0 : (a0.toList == ([103, 116] : List UInt8)) = false := beq_eq_false_iff_ne.mpr c3
      have c3b1 : (a0.toList != ([103, 116] : List UInt8)) = true := bne_iff_ne.mpr c3
      by_cases c4 : a0.toList = ([97, 109, 112] : List UInt8)
      · rw [if_pos c4] at H
        have c4b0 : (a0.toList == ([97, 109, 112] : List UInt8)) = true := beq_iff_eq.mpr c4
        have c4b1 : (a0.toList != ([97, 109, 112] : List UInt8)) = false := bne_eq_false_iff_eq.mpr c4
        clear c4
        obtain rfl := Option.some.inj H
        go_enter Tryz.func142, Tryz.ntmps142
        go_wp2
        go_ret
        exact ⟨by first | rfl | (simp; done) | (simp [*]; done), by repeat (first | exact Drawn0.refl _ | apply Drawn0.step)⟩
      · rw [if_neg c4] at H
        have c4b0 : (a0.toList == ([97, 109, 112] : List UInt8)) = false := beq_eq_false_iff_ne.mpr c4
        have c4b1 : (a0.toList != ([97, 109, 112] : List UInt8)) = true := bne_iff_ne.mpr c4
        by_cases c5 : a0.toList = ([113, 117, 111, 116] : List UInt8)
        · rw [if_pos c5] at H
          have c5b0 : (a0.toList == ([113, 117, 111, 116] : List UInt8)) = true := beq_iff_eq.mpr c5
          have c5b1 : (a0.toList != ([113, 117, 111, 116] : List UInt8)) = false := bne_eq_false_iff_eq.mpr c5
          clear c5
          obtain rfl := Option.some.inj H
          go_enter Tryz.func142, Tryz.ntmps142
          go_wp2
          go_ret
          exact ⟨by first | rfl | (simp; done) | (simp [*]; done), by repeat (first | exact Drawn0.refl _ | apply Drawn0.step)⟩
        · rw [if_neg c5] at H
          have c5b0 : (a0.toList == ([113, 117, 111, 116] : List UInt8)) = false := beq_eq_false_iff_ne.mpr c5
          have c5b1 : (a0.toList != ([113, 117, 111, 116] : List UInt8)) = true := bne_iff_ne.mpr c5
          by_cases c6 : a0.toList = ([97, 112, 111, 115] : List UInt8)
          · rw [if_pos c6] at H
            have c6b0 : (a0.toList == ([97, 112, 111, 115] : List UInt8)) = true := beq_iff_eq.mpr c6
            have c6b1 : (a0.toList != ([97, 112, 111, 115] : List UInt8)) = false := bne_eq_false_iff_eq.mpr c6
            clear c6
            obtain rfl := Option.some.inj H
            go_enter Tryz.func142, Tryz.ntmps142
            go_wp2
            go_ret
            exact ⟨by first | rfl | (simp; done) | (simp [*]; done), by repeat (first | exact Drawn0.refl _ | apply Drawn0.step)⟩
          · rw [if_neg c6] at H
            have c6b0 : (a0.toList == ([97, 112, 111, 115] : List UInt8)) = false := beq_eq_false_iff_ne.mpr c6
            have c6b1 : (a0.toList != ([97, 112, 111, 115] : List UInt8)) = true := bne_iff_ne.mpr c6
            obtain rfl := Option.some.inj H
            go_enter Tryz.func142, Tryz.ntmps142
            go_wp2
            go_ret
            exact ⟨by first | rfl | (simp; done) | (simp [*]; done), by repeat (first | exact Drawn0.refl _ | apply Drawn0.step)⟩
end Go.Proofs.YtlhhhlimjajnlaaGreat.Q
end
section
namespace Go.Proofs.YtlhhhlimjajnlaaGreat.X
end Go.Proofs.YtlhhhlimjajnlaaGreat.X
namespace Go.Proofs.YtlhhhlimjajnlaaGreat.Q
open Go.RowKit Go.Proofs.YtlhhhlimjajnlaaGreatW.PrintWords Go.Proofs.YtlhhhlimjajnlaaGreatW.PrintLast Go.Proofs.YtlhhhlimjajnlaaGreatW.PrintMore
attribute [local go_sem] max2_int min2_int max_two min_two max_three min_three max_four min_four   
open Go.Proofs.YtlhhhlimjajnlaaGreat.X
set_option linter.unusedVariables false
set_option linter.unusedSimpArgs false
def topiaryref11_Escape.l0 : Nat → ByteArray → ByteArray → Int → Option (ByteArray)
  | 0, _, _, _ => none
  | k + 1, x0, x3, x4 => if x4 < (x0.size : Int) then (if 0 ≤ x4 then (if (bt x0 x4) = 38 then (if x3.size + 5 ≤ 9223372036854775807 then (topiaryref11_Escape.l0 k x0 (x3 ++ (⟨#[38, 97, 109, 112, 59]⟩ : ByteArray)) (wrap64 (x4 + 1))) else (none)) else (if (bt x0 x4) = 60 then (if x3.size + 4 ≤ 9223372036854775807 then (topiaryref11_Escape.l0 k x0 (x3 ++ (⟨#[38, 108, 116, 59]⟩ : ByteArray)) (wrap64 (x4 + 1))) else (none)) else (if (bt x0 x4) = 62 then (if x3.size + 4 ≤ 9223372036854775807 then (topiaryref11_Escape.l0 k x0 (x3 ++ (⟨#[38, 103, 116, 59]⟩ : ByteArray)) (wrap64 (x4 + 1))) else (none)) else (if (bt x0 x4) = 34 then (if x3.size + 6 ≤ 9223372036854775807 then (topiaryref11_Escape.l0 k x0 (x3 ++ (⟨#[38, 113, 117, 111, 116, 59]⟩ : ByteArray)) (wrap64 (x4 + 1))) else (none)) else (if x4 ≤ (wrap64 (x4 + 1)) then (if (wrap64 (x4 + 1)) ≤ (x0.size : Int) then (if x3.size + (x0.extract (x4 : Int).toNat ((wrap64 (x4 + 1)) : Int).toNat).size ≤ 9223372036854775807 then (topiaryref11_Escape.l0 k x0 (x3 ++ (x0.extract (x4 : Int).toNat ((wrap64 (x4 + 1)) : Int).toNat)) (wrap64 (x4 + 1))) else (none)) else (none)) else (none)))))) else (none)) else (some x3)
def topiaryref11_Escape.f (k : Nat) (a0 : ByteArray) : Option (ByteArray) := topiaryref11_Escape.l0 k a0 (⟨#[]⟩ : ByteArray) 0
theorem topiaryref11_Escape.mono_l : ∀ k, (∀ y0 y1 y2, LeO (topiaryref11_Escape.l0 k y0 y1 y2) (topiaryref11_Escape.l0 (k + 1) y0 y1 y2))
  | 0 => fun _ _ _ r h => by simp [topiaryref11_Escape.l0] at h
  | k + 1 => by
    have ih0 := topiaryref11_Escape.mono_l k
    · intro y0 y1 y2
      unfold topiaryref11_Escape.l0
      repeat' first
      | (with_reducible exact ih0 _ _ _)
      | (with_reducible exact LeO.refl _)
      | (with_reducible exact LeO.none _)
      | (with_reducible refine LeO.ite ?_ ?_)
      | (with_reducible refine LeO.bind ?_ (fun _ => ?_))
      | exact ih0 _ _ _
      | exact LeO.none _
      | refine LeO.ite ?_ ?_
      | refine LeO.bind ?_ (fun _ => ?_)
theorem topiaryref11_Escape.mono : ∀ a0 k, LeO (topiaryref11_Escape.f k a0) (topiaryref11_Escape.f (k + 1) a0) := by
  intro a0 k
  have ih0 := topiaryref11_Escape.mono_l k
  unfold topiaryref11_Escape.f
  repeat' first
      | (with_reducible exact ih0 _ _ _)
      | (with_reducible exact LeO.refl _)
      | (with_reducible exact LeO.none _)
      | (with_reducible refine LeO.ite ?_ ?_)
      | (with_reducible refine LeO.bind ?_ (fun _ => ?_))
      | exact ih0 _ _ _
      | exact LeO.none _
      | refine LeO.ite ?_ ?_
      | refine LeO.bind ?_ (fun _ => ?_)
end Go.Proofs.YtlhhhlimjajnlaaGreat.Q
end
