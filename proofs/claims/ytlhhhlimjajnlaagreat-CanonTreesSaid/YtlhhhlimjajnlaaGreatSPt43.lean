/- Parts of the proof of canonTrees_holds, kept and merged by a program of mine (wip/tools/slim.py) out of my texts: Q16 -/
import Derived.Test.YtlhhhlimjajnlaaGreatSPt0
import Derived.Test.YtlhhhlimjajnlaaGreatSPt4
import Derived.Test.YtlhhhlimjajnlaaGreatSPt26
import Derived.Test.YtlhhhlimjajnlaaGreatSPt28
section
namespace Go.Proofs.YtlhhhlimjajnlaaGreat.X
end Go.Proofs.YtlhhhlimjajnlaaGreat.X
namespace Go.Proofs.YtlhhhlimjajnlaaGreat.Q
open Go.RowKit Go.Proofs.YtlhhhlimjajnlaaGreatW.PrintWords Go.Proofs.YtlhhhlimjajnlaaGreatW.PrintLast Go.Proofs.YtlhhhlimjajnlaaGreatW.PrintMore
attribute [local go_sem] max2_int min2_int max_two min_two max_three min_three max_four min_four   
open Go.Proofs.YtlhhhlimjajnlaaGreat.X
set_option linter.unusedVariables false
set_option linter.unusedSimpArgs false
attribute [local go_sem high] eqA41
mutual
def R3_limited.l0 : Nat → List (S104) → List Int → Int → List ByteArray → Option (List ByteArray × (List (S41)) × Int)
 | 0, _, _, _, _ => none
 | k + 1, x0, x5, x6, x307000 => if x6 < (x0.length : Int) then (if 0 ≤ x6 then (if ((rd_T104 x0 x6).f0.f2) ≥ 0 then (if 0 ≤ ((rd_T104 x0 x6).f0.f2) then (if ((rd_T104 x0 x6).f0.f2) < (x5.length : Int) then (R3_limited.j1 k x0 x5 x6 (wrap64 ((rd x5 ((rd_T104 x0 x6).f0.f2)) + 1)) x307000 ((rd_T104 x0 x6).f0.f0) ((rd_T104 x0 x6).f0.f1) ((rd_T104 x0 x6).f0.f2) ((rd_T104 x0 x6).f0.f3) ((rd_T104 x0 x6).f1)) else (none)) else (none)) else (R3_limited.j1 k x0 x5 x6 0 x307000 ((rd_T104 x0 x6).f0.f0) ((rd_T104 x0 x6).f0.f1) ((rd_T104 x0 x6).f0.f2) ((rd_T104 x0 x6).f0.f3) ((rd_T104 x0 x6).f1))) else (none)) else (if (x307000.length : Int) > 1000 then (some (([] : List ByteArray), ([] : List (S41)), 18)) else (R3_limited.l1 k x0 0 x307000 ([] : List (S41))))
def R3_limited.j1 : Nat → List (S104) → List Int → Int → Int → List ByteArray → Int → Int → Int → ByteArray → ByteArray → Option (List ByteArray × (List (S41)) × Int)
 | 0, _, _, _, _, _, _, _, _, _, _ => none
 | k + 1, x0, x5, x6, x8, x307000, x309000, x309001, x309002, x309003, x309004 => if x5.length < 17592186044416 then ((some (x5 ++ [x8] : List Int)).bind fun y310 => (if x309000 = 1 then (R3_limited.j2 k x0 y310 x6 (decide (x8 > 64)) x307000 x309000 x309001 x309002 x309003 x309004) else (R3_limited.j2 k x0 y310 x6 false x307000 x309000 x309001 x309002 x309003 x309004))) else (none)
def R3_limited.j2 : Nat → List (S104) → List Int → Int → Bool → List ByteArray → Int → Int → Int → ByteArray → ByteArray → Option (List ByteArray × (List (S41)) × Int)
 | 0, _, _, _, _, _, _, _, _, _, _ => none
 | k + 1, x0, x5, x6, x47, x307000, x309000, x309001, x309002, x309003, x309004 => if x47 = true then (some (([] : List ByteArray), ([] : List (S41)), 18)) else (if x309000 = 3 then (R3_limited.l0 k x0 x5 (wrap64 (x6 + 1)) x307000) else ((R3_with.f k x307000 x309004).bind fun t313 => (R3_limited.l0 k x0 x5 (wrap64 (x6 + 1)) t313)))
def R3_limited.l1 : Nat → List (S104) → Int → List ByteArray → List (S41) → Option (List ByteArray × (List (S41)) × Int)
 | 0, _, _, _, _ => none
 | k + 1, x0, x9, x307000, x307001 => if x9 < (x0.length : Int) then (if 0 ≤ x9 then (if ((rd_T104 x0 x9).f0.f0) = 3 then (if x307001.length < 3518437208883 then (R3_limited.l1 k x0 (wrap64 (x9 + 1)) x307000 (x307001 ++ [(⟨(rd_T104 x0 x9).f0.f0, (rd_T104 x0 x9).f0.f1, (rd_T104 x0 x9).f0.f2, (rd_T104 x0 x9).f0.f3⟩ : S41)])) else (none)) else ((R3_Number.f k x307000 ((rd_T104 x0 x9).f1)).bind fun t322 => (if x307001.length < 3518437208883 then (R3_limited.l1 k x0 (wrap64 (x9 + 1)) x307000 (x307001 ++ [(⟨(rd_T104 x0 x9).f0.f0, t322, (rd_T104 x0 x9).f0.f2, (rd_T104 x0 x9).f0.f3⟩ : S41)])) else (none)))) else (none)) else (some (x307000, x307001, 0))
end
def R3_limited.f (k : Nat) (l0 : List (S104)) : Option (List ByteArray × (List (S41)) × Int) := if (l0.length : Int) > 5000 then (some (([] : List ByteArray), ([] : List (S41)), 18)) else (R3_limited.l0 k l0 ([] : List Int) 0 ([] : List ByteArray))
theorem R3_limited.mono_l : ∀ k, (∀ y0 y1 y2 y3, LeO (R3_limited.l0 k y0 y1 y2 y3) (R3_limited.l0 (k + 1) y0 y1 y2 y3)) ∧ (∀ y0 y1 y2 y3 y4 y5 y6 y7 y8 y9, LeO (R3_limited.j1 k y0 y1 y2 y3 y4 y5 y6 y7 y8 y9) (R3_limited.j1 (k + 1) y0 y1 y2 y3 y4 y5 y6 y7 y8 y9)) ∧ (∀ y0 y1 y2 y3 y4 y5 y6 y7 y8 y9, LeO (R3_limited.j2 k y0 y1 y2 y3 y4 y5 y6 y7 y8 y9) (R3_limited.j2 (k + 1) y0 y1 y2 y3 y4 y5 y6 y7 y8 y9)) ∧ (∀ y0 y1 y2 y3, LeO (R3_limited.l1 k y0 y1 y2 y3) (R3_limited.l1 (k + 1) y0 y1 y2 y3))
 | 0 => ⟨fun _ _ _ _ r h => by simp [R3_limited.l0] at h, fun _ _ _ _ _ _ _ _ _ _ r h => by simp [R3_limited.j1] at h, fun _ _ _ _ _ _ _ _ _ _ r h => by simp [R3_limited.j2] at h, fun _ _ _ _ r h => by simp [R3_limited.l1] at h⟩
 | k + 1 => by
  obtain ⟨ih0, ih1, ih2, ih3⟩ := R3_limited.mono_l k
  refine ⟨?_, ?_, ?_, ?_⟩
  ·intro y0 y1 y2 y3
   unfold R3_limited.l0
   have mo0 := @R3_Number.mono; have mo1 := @R3_with.mono; exact leT
  ·intro y0 y1 y2 y3 y4 y5 y6 y7 y8 y9
   unfold R3_limited.j1
   have mo0 := @R3_Number.mono; have mo1 := @R3_with.mono; exact leT
  ·intro y0 y1 y2 y3 y4 y5 y6 y7 y8 y9
   unfold R3_limited.j2
   have mo0 := @R3_Number.mono; have mo1 := @R3_with.mono; exact leT
  ·intro y0 y1 y2 y3
   unfold R3_limited.l1
   have mo0 := @R3_Number.mono; have mo1 := @R3_with.mono; exact leT
theorem R3_limited.mono : ∀ a0 k, LeO (R3_limited.f k a0) (R3_limited.f (k + 1) a0) := by
 intro a0 k
 obtain ⟨ih0, ih1, ih2, ih3⟩ := R3_limited.mono_l k
 unfold R3_limited.f
 have mo0 := @R3_Number.mono; have mo1 := @R3_with.mono; exact leT
def R3_Parse.j0 : Nat → List (S51) → List (S104) → Int → Bool → Option (List ByteArray × (List (S41)) × Int)
 | 0, _, _, _, _ => none
 | k + 1, x4, x9, x10, x43 => if x43 = true then (some (([] : List ByteArray), ([] : List (S41)), 15)) else ((R3_texts.f k x4 x10).bind fun bt339 => ((R3_spaces.f k bt339.1).bind fun t341 => (if t341 = true then (if bt339.2 < (x4.length : Int) then (some (([] : List ByteArray), ([] : List (S41)), 15)) else ((R3_limited.f k x9).bind fun bt342 => (some (bt342.1, bt342.2.1, bt342.2.2)))) else (some (([] : List ByteArray), ([] : List (S41)), 15)))))
def R3_Parse.f (k : Nat) (a0 : ByteArray) : Option (List ByteArray × (List (S41)) × Int) := (R2_Lex.f k a0).bind fun bt327 => (if bt327.2 = 0 then ((R3_texts.f k bt327.1 0).bind fun bt331 => ((R3_spaces.f k bt331.1).bind fun t333 => ((R3_element.f k bt327.1 bt331.2 (-1) ([] : List (S104)) 0).bind fun bt334 => (if t333 = true then (R3_Parse.j0 k bt327.1 bt334.1 bt334.2.1 (!bt334.2.2)) else (R3_Parse.j0 k bt327.1 bt334.1 bt334.2.1 true))))) else (some (([] : List ByteArray), ([] : List (S41)), bt327.2)))
theorem R3_Parse.mono_l : ∀ k, (∀ y0 y1 y2 y3, LeO (R3_Parse.j0 k y0 y1 y2 y3) (R3_Parse.j0 (k + 1) y0 y1 y2 y3))
 | 0 => fun _ _ _ _ r h => by simp [R3_Parse.j0] at h
 | k + 1 => by
  have ih0 := R3_Parse.mono_l k
  ·intro y0 y1 y2 y3
   unfold R3_Parse.j0
   have mo0 := @R2_Lex.mono; have mo1 := @R3_element.mono; have mo2 := @R3_limited.mono; have mo3 := @R3_spaces.mono; have mo4 := @R3_texts.mono; exact leT
theorem R3_Parse.mono : ∀ a0 k, LeO (R3_Parse.f k a0) (R3_Parse.f (k + 1) a0) := by
 intro a0 k
 have ih0 := R3_Parse.mono_l k
 unfold R3_Parse.f
 have mo0 := @R2_Lex.mono; have mo1 := @R3_element.mono; have mo2 := @R3_limited.mono; have mo3 := @R3_spaces.mono; have mo4 := @R3_texts.mono; exact leT
mutual
def R3_Same.j0 : Nat → Bool → List ByteArray → List (S41) → List ByteArray → List (S41) → Option (Bool)
 | 0, _, _, _, _, _ => none
 | k + 1, x22, x350000, x350001, x351000, x351001 => if x22 = true then (some false) else (R3_Same.l0 k 0 x350000 x350001 x351000 x351001)
def R3_Same.l0 : Nat → Int → List ByteArray → List (S41) → List ByteArray → List (S41) → Option (Bool)
 | 0, _, _, _, _, _ => none
 | k + 1, x5, x350000, x350001, x351000, x351001 => if x5 < (x350000.length : Int) then (if 0 ≤ x5 then (if x5 < (x351000.length : Int) then (if (rdOf ByteArray.empty x350000 x5).toList = (rdOf ByteArray.empty x351000 x5).toList then (R3_Same.l0 k (wrap64 (x5 + 1)) x350000 x350001 x351000 x351001) else (some false)) else (none)) else (none)) else (R3_Same.l1 k 0 x350000 x350001 x351000 x351001)
def R3_Same.l1 : Nat → Int → List ByteArray → List (S41) → List ByteArray → List (S41) → Option (Bool)
 | 0, _, _, _, _, _ => none
 | k + 1, x6, x350000, x350001, x351000, x351001 => if x6 < (x350001.length : Int) then (if 0 ≤ x6 then (if x6 < (x351001.length : Int) then (if (!(((rd_T41 x350001 x6).f0) == ((rd_T41 x351001 x6).f0)) || (!(((rd_T41 x350001 x6).f1) == ((rd_T41 x351001 x6).f1)) || (!(((rd_T41 x350001 x6).f2) == ((rd_T41 x351001 x6).f2)) || (!((((rd_T41 x350001 x6).f3).toList) == (((rd_T41 x351001 x6).f3).toList)))))) = true then (some false) else (R3_Same.l1 k (wrap64 (x6 + 1)) x350000 x350001 x351000 x351001)) else (none)) else (none)) else (some true)
end
def R3_Same.f (k : Nat) (l0_0 : List ByteArray) (l0_1 : List (S41)) (l1_0 : List ByteArray) (l1_1 : List (S41)) : Option (Bool) := if (l0_0.length : Int) = (l1_0.length : Int) then (R3_Same.j0 k ((l0_1.length : Int) != (l1_1.length : Int)) l0_0 l0_1 l1_0 l1_1) else (R3_Same.j0 k true l0_0 l0_1 l1_0 l1_1)
theorem R3_Same.mono_l : ∀ k, (∀ y0 y1 y2 y3 y4, LeO (R3_Same.j0 k y0 y1 y2 y3 y4) (R3_Same.j0 (k + 1) y0 y1 y2 y3 y4)) ∧ (∀ y0 y1 y2 y3 y4, LeO (R3_Same.l0 k y0 y1 y2 y3 y4) (R3_Same.l0 (k + 1) y0 y1 y2 y3 y4)) ∧ (∀ y0 y1 y2 y3 y4, LeO (R3_Same.l1 k y0 y1 y2 y3 y4) (R3_Same.l1 (k + 1) y0 y1 y2 y3 y4))
 | 0 => ⟨fun _ _ _ _ _ r h => by simp [R3_Same.j0] at h, fun _ _ _ _ _ r h => by simp [R3_Same.l0] at h, fun _ _ _ _ _ r h => by simp [R3_Same.l1] at h⟩
 | k + 1 => by
  obtain ⟨ih0, ih1, ih2⟩ := R3_Same.mono_l k
  refine ⟨?_, ?_, ?_⟩
  ·intro y0 y1 y2 y3 y4
   unfold R3_Same.j0
   exact leT
  ·intro y0 y1 y2 y3 y4
   unfold R3_Same.l0
   exact leT
  ·intro y0 y1 y2 y3 y4
   unfold R3_Same.l1
   exact leT
theorem R3_Same.mono : ∀ a0 a1 a2 a3 k, LeO (R3_Same.f k a0 a1 a2 a3) (R3_Same.f (k + 1) a0 a1 a2 a3) := by
 intro a0 a1 a2 a3 k
 obtain ⟨ih0, ih1, ih2⟩ := R3_Same.mono_l k
 unfold R3_Same.f
 exact leT
end Go.Proofs.YtlhhhlimjajnlaaGreat.Q
end
