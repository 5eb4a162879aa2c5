/- Parts of the proof of canonTrees_holds, kept and merged by a program of mine (wip/tools/slim.py) out of my texts: StrG Q15 -/
import Derived.Test.YtlhhhlimjajnlaaGreatSPt0
import Derived.Sort.Walk0
import Derived.Test.YtlhhhlimjajnlaaGreatSPt4
import Derived.Test.YtlhhhlimjajnlaaGreatSPt24
section
set_option linter.unusedVariables false
set_option linter.unusedSimpArgs false
namespace Go.Proofs.YtlhhhlimjajnlaaGreat.X
open Go.RowKit
theorem less_flip (a b : List UInt8) : (!(Op.bytesLess a b || a == b)) = Op.bytesLess b a := by
 rw [Go.Proofs.bytesLess_eq, Go.Proofs.bytesLess_eq, Bool.eq_iff_iff]
 simp only [Bool.not_eq_true', Bool.or_eq_false_iff, decide_eq_false_iff_not, decide_eq_true_iff, beq_eq_false_iff_ne]
 constructor
 ·rintro ⟨h1, h2⟩
  exact Classical.byContradiction fun h => h2 (List.le_antisymm (List.not_lt.1 h) (List.not_lt.1 h1))
 ·intro h
  refine ⟨fun h' => List.lt_irrefl _ (List.lt_trans h h'), fun e => ?_⟩
  rw [e] at h; exact List.lt_irrefl _ h
theorem str_gtr (t : TypeId) (a b : ByteArray) : binOp .gtr t (.string a) (.string b) = pure (.bool (Op.bytesLess b.toList a.toList)) := by
 rw [← less_flip]; simp [binOp, Op.stringOp]
theorem str_geq (t : TypeId) (a b : ByteArray) : binOp .geq t (.string a) (.string b) = pure (.bool !(Op.bytesLess a.toList b.toList)) := by simp [binOp, Op.stringOp]
theorem str_leq (t : TypeId) (a b : ByteArray) : binOp .leq t (.string a) (.string b) = pure (.bool !(Op.bytesLess b.toList a.toList)) := by
 rw [← less_flip]; simp [binOp, Op.stringOp]
end Go.Proofs.YtlhhhlimjajnlaaGreat.X
end
section
namespace Go.Proofs.YtlhhhlimjajnlaaGreat.X
end Go.Proofs.YtlhhhlimjajnlaaGreat.X
namespace Go.Proofs.YtlhhhlimjajnlaaGreat.Q
open Go.RowKit Go.Proofs.YtlhhhlimjajnlaaGreatW.PrintWords Go.Proofs.YtlhhhlimjajnlaaGreatW.PrintLast Go.Proofs.YtlhhhlimjajnlaaGreatW.PrintMore
attribute [local go_sem] max2_int min2_int max_two min_two max_three min_three max_four min_four   
open Go.Proofs.YtlhhhlimjajnlaaGreat.X
attribute [local go_sem] str_gtr str_geq str_leq   
set_option linter.unusedVariables false
set_option linter.unusedSimpArgs false
mutual
def R3_texts.l0 : Nat → List (S51) → Int → ByteArray → Option (ByteArray × Int)
 | 0, _, _, _ => none
 | k + 1, x0, x1, x6 => if x1 < (x0.length : Int) then (if 0 ≤ x1 then (if ((rd_T51 x0 x1).f0) = 6 then (R3_texts.j1 k x0 x1 x6 true) else (R3_texts.j1 k x0 x1 x6 (((rd_T51 x0 x1).f0) == 7))) else (none)) else (R3_texts.j1 k x0 x1 x6 false)
def R3_texts.j1 : Nat → List (S51) → Int → ByteArray → Bool → Option (ByteArray × Int)
 | 0, _, _, _, _ => none
 | k + 1, x0, x1, x6, x26 => if x26 = true then (if 0 ≤ x1 then (if x1 < (x0.length : Int) then (if ((rd_T51 x0 x1).f0) = 6 then (if x6.size + ((rd_T51 x0 x1).f4).size ≤ 9223372036854775807 then (R3_texts.l0 k x0 (wrap64 (x1 + 1)) (x6 ++ ((rd_T51 x0 x1).f4))) else (none)) else (R3_texts.l0 k x0 (wrap64 (x1 + 1)) x6)) else (none)) else (none)) else (some (x6, x1))
end
def R3_texts.f (k : Nat) (l0 : List (S51)) (a1 : Int) : Option (ByteArray × Int) := R3_texts.l0 k l0 a1 (⟨#[]⟩ : ByteArray)
theorem R3_texts.mono_l : ∀ k, (∀ y0 y1 y2, LeO (R3_texts.l0 k y0 y1 y2) (R3_texts.l0 (k + 1) y0 y1 y2)) ∧ (∀ y0 y1 y2 y3, LeO (R3_texts.j1 k y0 y1 y2 y3) (R3_texts.j1 (k + 1) y0 y1 y2 y3))
 | 0 => ⟨fun _ _ _ r h => by simp [R3_texts.l0] at h, fun _ _ _ _ r h => by simp [R3_texts.j1] at h⟩
 | k + 1 => by
  obtain ⟨ih0, ih1⟩ := R3_texts.mono_l k
  refine ⟨?_, ?_⟩
  ·intro y0 y1 y2
   unfold R3_texts.l0
   exact leT
  ·intro y0 y1 y2 y3
   unfold R3_texts.j1
   exact leT
theorem R3_texts.mono : ∀ a0 a1 k, LeO (R3_texts.f k a0 a1) (R3_texts.f (k + 1) a0 a1) := by
 intro a0 a1 k
 obtain ⟨ih0, ih1⟩ := R3_texts.mono_l k
 unfold R3_texts.f
 exact leT
def R3_spaces.f (k : Nat) (a0 : ByteArray) : Option (Bool) := (R1_Skip.f k a0 0).bind fun t257 => (some (t257 == (a0.size : Int)))
theorem R3_spaces.mono : ∀ a0 k, LeO (R3_spaces.f k a0) (R3_spaces.f (k + 1) a0) := by
 intro a0 k
 unfold R3_spaces.f
 have mo0 := @R1_Skip.mono; exact leT
mutual
def R3_element.j0 : Nat → List (S51) → Int → Int → List (S104) → Int → Bool → Option ((List (S104)) × Int × Bool)
 | 0, _, _, _, _, _, _ => none
 | k + 1, x0, x1, x2, x3, x4, x36 => if x36 = true then (some (x3, x1, false)) else (if 0 ≤ x1 then (if x1 < (x0.length : Int) then (if x3.length < 2513169434916 then (R3_element.l0 k x0 (wrap64 (x1 + 1)) (x3 ++ [(⟨(⟨1, 0, x2, (⟨#[]⟩ : ByteArray)⟩ : S41), (rd_T51 x0 x1).f3⟩ : S104)]) x4 (x3.length : Int) ((rd_T51 x0 x1).f3)) else (none)) else (none)) else (none))
def R3_element.l0 : Nat → List (S51) → Int → List (S104) → Int → Int → ByteArray → Option ((List (S104)) × Int × Bool)
 | 0, _, _, _, _, _, _ => none
 | k + 1, x0, x1, x3, x4, x13, x14 => if x1 < (x0.length : Int) then (if 0 ≤ x1 then (R3_element.j2 k x0 x1 x3 x4 x13 x14 (((rd_T51 x0 x1).f0) == 2)) else (none)) else (R3_element.j2 k x0 x1 x3 x4 x13 x14 false)
def R3_element.j2 : Nat → List (S51) → Int → List (S104) → Int → Int → ByteArray → Bool → Option ((List (S104)) × Int × Bool)
 | 0, _, _, _, _, _, _, _ => none
 | k + 1, x0, x1, x3, x4, x13, x14, x66 => if x66 = true then (R3_element.l1 k x0 x1 x3 x4 x13 x14 (wrap64 (x13 + 1))) else (if x1 ≥ (x0.length : Int) then (some (x3, x1, false)) else (if 0 ≤ x1 then (if x1 < (x0.length : Int) then (if ((rd_T51 x0 x1).f0) = 4 then (some (x3, wrap64 (x1 + 1), true)) else (R3_element.l2 k x0 (wrap64 (x1 + 1)) x3 x4 x13 x14)) else (none)) else (none)))
def R3_element.l1 : Nat → List (S51) → Int → List (S104) → Int → Int → ByteArray → Int → Option ((List (S104)) × Int × Bool)
 | 0, _, _, _, _, _, _, _ => none
 | k + 1, x0, x1, x3, x4, x13, x14, x15 => if x15 < (x3.length : Int) then (if 0 ≤ x15 then (if 0 ≤ x1 then (if x1 < (x0.length : Int) then (if ((rd_T104 x3 x15).f1).toList = ((rd_T51 x0 x1).f3).toList then (some (x3, x1, false)) else (R3_element.l1 k x0 x1 x3 x4 x13 x14 (wrap64 (x15 + 1)))) else (none)) else (none)) else (none)) else (if 0 ≤ x1 then (if x1 < (x0.length : Int) then (if x3.length < 2513169434916 then (R3_element.l0 k x0 (wrap64 (x1 + 1)) (x3 ++ [(⟨(⟨2, 0, x13, (rd_T51 x0 x1).f4⟩ : S41), (rd_T51 x0 x1).f3⟩ : S104)]) x4 x13 x14) else (none)) else (none)) else (none))
def R3_element.l2 : Nat → List (S51) → Int → List (S104) → Int → Int → ByteArray → Option ((List (S104)) × Int × Bool)
 | 0, _, _, _, _, _, _ => none
 | k + 1, x0, x1, x3, x4, x13, x14 => (R3_texts.f k x0 x1).bind fun bt272 => (if bt272.1.toList = ([] : List UInt8) then (R3_element.j5 k x0 x3 x4 x13 x14 bt272.2) else (if x3.length < 2513169434916 then (R3_element.j5 k x0 (x3 ++ [(⟨(⟨3, (-1), x13, bt272.1⟩ : S41), (⟨#[]⟩ : ByteArray)⟩ : S104)]) x4 x13 x14 bt272.2) else (none)))
def R3_element.j5 : Nat → List (S51) → List (S104) → Int → Int → ByteArray → Int → Option ((List (S104)) × Int × Bool)
 | 0, _, _, _, _, _, _ => none
 | k + 1, x0, x3, x4, x13, x14, x17 => if x17 ≥ (x0.length : Int) then (some (x3, x17, false)) else (if 0 ≤ x17 then (if x17 < (x0.length : Int) then (if ((rd_T51 x0 x17).f0) = 5 then (some (x3, wrap64 (x17 + 1), (((rd_T51 x0 x17).f3).toList == x14.toList))) else ((R3_element.f k x0 x17 x13 x3 (wrap64 (x4 + 1))).bind fun bt279 => (if bt279.2.2 = true then (R3_element.l2 k x0 bt279.2.1 bt279.1 x4 x13 x14) else (some (bt279.1, bt279.2.1, false))))) else (none)) else (none))
def R3_element.f : Nat → List (S51) → Int → Int → List (S104) → Int → Option ((List (S104)) × Int × Bool)
 | 0, _, _, _, _, _ => none
 | k + 1, l0, a1, a2, l3, a4 => if a1 ≥ (l0.length : Int) then (R3_element.j0 k l0 a1 a2 l3 a4 true) else (if 0 ≤ a1 then (if a1 < (l0.length : Int) then (if ((rd_T51 l0 a1).f0) = 1 then (R3_element.j0 k l0 a1 a2 l3 a4 (decide (a4 > 3000))) else (R3_element.j0 k l0 a1 a2 l3 a4 true)) else (none)) else (none))
end
theorem R3_element.mono_l : ∀ k, (∀ y0 y1 y2 y3 y4, LeO (R3_element.f k y0 y1 y2 y3 y4) (R3_element.f (k + 1) y0 y1 y2 y3 y4)) ∧ (∀ y0 y1 y2 y3 y4 y5, LeO (R3_element.j0 k y0 y1 y2 y3 y4 y5) (R3_element.j0 (k + 1) y0 y1 y2 y3 y4 y5)) ∧ (∀ y0 y1 y2 y3 y4 y5, LeO (R3_element.l0 k y0 y1 y2 y3 y4 y5) (R3_element.l0 (k + 1) y0 y1 y2 y3 y4 y5)) ∧ (∀ y0 y1 y2 y3 y4 y5 y6, LeO (R3_element.j2 k y0 y1 y2 y3 y4 y5 y6) (R3_element.j2 (k + 1) y0 y1 y2 y3 y4 y5 y6)) ∧ (∀ y0 y1 y2 y3 y4 y5 y6, LeO (R3_element.l1 k y0 y1 y2 y3 y4 y5 y6) (R3_element.l1 (k + 1) y0 y1 y2 y3 y4 y5 y6)) ∧ (∀ y0 y1 y2 y3 y4 y5, LeO (R3_element.l2 k y0 y1 y2 y3 y4 y5) (R3_element.l2 (k + 1) y0 y1 y2 y3 y4 y5)) ∧ (∀ y0 y1 y2 y3 y4 y5, LeO (R3_element.j5 k y0 y1 y2 y3 y4 y5) (R3_element.j5 (k + 1) y0 y1 y2 y3 y4 y5))
 | 0 => ⟨fun _ _ _ _ _ r h => by simp [R3_element.f] at h, fun _ _ _ _ _ _ r h => by simp [R3_element.j0] at h, fun _ _ _ _ _ _ r h => by simp [R3_element.l0] at h, fun _ _ _ _ _ _ _ r h => by simp [R3_element.j2] at h, fun _ _ _ _ _ _ _ r h => by simp [R3_element.l1] at h, fun _ _ _ _ _ _ r h => by simp [R3_element.l2] at h, fun _ _ _ _ _ _ r h => by simp [R3_element.j5] at h⟩
 | k + 1 => by
  obtain ⟨ih0, ih1, ih2, ih3, ih4, ih5, ih6⟩ := R3_element.mono_l k
  refine ⟨?_, ?_, ?_, ?_, ?_, ?_, ?_⟩
  ·intro y0 y1 y2 y3 y4
   unfold R3_element.f
   have mo0 := @R3_texts.mono; exact leT
  ·intro y0 y1 y2 y3 y4 y5
   unfold R3_element.j0
   have mo0 := @R3_texts.mono; exact leT
  ·intro y0 y1 y2 y3 y4 y5
   unfold R3_element.l0
   have mo0 := @R3_texts.mono; exact leT
  ·intro y0 y1 y2 y3 y4 y5 y6
   unfold R3_element.j2
   have mo0 := @R3_texts.mono; exact leT
  ·intro y0 y1 y2 y3 y4 y5 y6
   unfold R3_element.l1
   have mo0 := @R3_texts.mono; exact leT
  ·intro y0 y1 y2 y3 y4 y5
   unfold R3_element.l2
   have mo0 := @R3_texts.mono; exact leT
  ·intro y0 y1 y2 y3 y4 y5
   unfold R3_element.j5
   have mo0 := @R3_texts.mono; exact leT
theorem R3_element.mono : ∀ a0 a1 a2 a3 a4 k, LeO (R3_element.f k a0 a1 a2 a3 a4) (R3_element.f (k + 1) a0 a1 a2 a3 a4) := by
 intro a0 a1 a2 a3 a4 k
 obtain ⟨ih0, ih1, ih2, ih3, ih4, ih5, ih6⟩ := R3_element.mono_l k
 exact ih0 a0 a1 a2 a3 a4
def R3_with.l0 : Nat → List ByteArray → ByteArray → List ByteArray → Bool → Int → Option (List ByteArray)
 | 0, _, _, _, _, _ => none
 | k + 1, x0, x1, x5, x6, x7 => if x7 < (x0.length : Int) then (if 0 ≤ x7 then (if (rdOf ByteArray.empty x0 x7).toList = x1.toList then (some x0) else (if x6 = true then (if x5.length < 8796093022208 then (R3_with.l0 k x0 x1 (x5 ++ [rdOf ByteArray.empty x0 x7]) x6 (wrap64 (x7 + 1))) else (none)) else (if (Op.bytesLess x1.toList ((rdOf ByteArray.empty x0 x7).toList)) = true then (if x5.length < 8796093022208 then ((some (x5 ++ [x1] : List ByteArray)).bind fun y293 => (if y293.length < 8796093022208 then (R3_with.l0 k x0 x1 (y293 ++ [rdOf ByteArray.empty x0 x7]) true (wrap64 (x7 + 1))) else (none))) else (none)) else (if x5.length < 8796093022208 then (R3_with.l0 k x0 x1 (x5 ++ [rdOf ByteArray.empty x0 x7]) x6 (wrap64 (x7 + 1))) else (none))))) else (none)) else (if x6 = true then (some x5) else (if x5.length < 8796093022208 then (some (x5 ++ [x1])) else (none)))
def R3_with.f (k : Nat) (l0 : List ByteArray) (a1 : ByteArray) : Option (List ByteArray) := R3_with.l0 k l0 a1 ([] : List ByteArray) false 0
theorem R3_with.mono_l : ∀ k, (∀ y0 y1 y2 y3 y4, LeO (R3_with.l0 k y0 y1 y2 y3 y4) (R3_with.l0 (k + 1) y0 y1 y2 y3 y4))
 | 0 => fun _ _ _ _ _ r h => by simp [R3_with.l0] at h
 | k + 1 => by
  have ih0 := R3_with.mono_l k
  ·intro y0 y1 y2 y3 y4
   unfold R3_with.l0
   exact leT
theorem R3_with.mono : ∀ a0 a1 k, LeO (R3_with.f k a0 a1) (R3_with.f (k + 1) a0 a1) := by
 intro a0 a1 k
 have ih0 := R3_with.mono_l k
 unfold R3_with.f
 exact leT
def R3_Number.l0 : Nat → List ByteArray → ByteArray → Int → Option (Int)
 | 0, _, _, _ => none
 | k + 1, x0, x1, x5 => if x5 < (x0.length : Int) then (if 0 ≤ x5 then (if (rdOf ByteArray.empty x0 x5).toList = x1.toList then (some x5) else (R3_Number.l0 k x0 x1 (wrap64 (x5 + 1)))) else (none)) else (some (-1))
def R3_Number.f (k : Nat) (l0 : List ByteArray) (a1 : ByteArray) : Option (Int) := R3_Number.l0 k l0 a1 0
theorem R3_Number.mono_l : ∀ k, (∀ y0 y1 y2, LeO (R3_Number.l0 k y0 y1 y2) (R3_Number.l0 (k + 1) y0 y1 y2))
 | 0 => fun _ _ _ r h => by simp [R3_Number.l0] at h
 | k + 1 => by
  have ih0 := R3_Number.mono_l k
  ·intro y0 y1 y2
   unfold R3_Number.l0
   exact leT
theorem R3_Number.mono : ∀ a0 a1 k, LeO (R3_Number.f k a0 a1) (R3_Number.f (k + 1) a0 a1) := by
 intro a0 a1 k
 have ih0 := R3_Number.mono_l k
 unfold R3_Number.f
 exact leT
end Go.Proofs.YtlhhhlimjajnlaaGreat.Q
end
