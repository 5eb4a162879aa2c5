/- Parts of the proof of canonSame_holds, kept and merged by a program of mine (wip/tools/slim.py) out of my texts: Q16 -/
import Derived.Test.YtlhhhlimjajnlaaGreatSPs4
import Derived.Test.YtlhhhlimjajnlaaGreatSPs8
import Derived.Test.YtlhhhlimjajnlaaGreatSPs9
section
namespace Go.Proofs.YtlhhhlimjajnlaaGreat.X
end Go.Proofs.YtlhhhlimjajnlaaGreat.X
namespace Go.Proofs.YtlhhhlimjajnlaaGreat.Q
open Go.RowKit Go.Proofs.YtlhhhlimjajnlaaGreatW.PrintWords Go.Proofs.YtlhhhlimjajnlaaGreatW.PrintLast Go.Proofs.YtlhhhlimjajnlaaGreatW.PrintMore
attribute [local go_sem] max2_int min2_int max_two min_two max_three min_three max_four min_four   
open Go.Proofs.YtlhhhlimjajnlaaGreat.X
set_option linter.unusedVariables false
set_option linter.unusedSimpArgs false
attribute [local go_sem high] eqA41
mutual
def topiaryref13_limited.l0 : Nat → List (S104) → List Int → Int → List ByteArray → Option (List ByteArray × (List (S41)) × Int)
 | 0, _, _, _, _ => none
 | k + 1, x0, x5, x6, x307000 => if x6 < (x0.length : Int) then (if 0 ≤ x6 then (if ((rd_T104 x0 x6).f0.f2) ≥ 0 then (if 0 ≤ ((rd_T104 x0 x6).f0.f2) then (if ((rd_T104 x0 x6).f0.f2) < (x5.length : Int) then (topiaryref13_limited.j1 k x0 x5 x6 (wrap64 ((rd x5 ((rd_T104 x0 x6).f0.f2)) + 1)) x307000 ((rd_T104 x0 x6).f0.f0) ((rd_T104 x0 x6).f0.f1) ((rd_T104 x0 x6).f0.f2) ((rd_T104 x0 x6).f0.f3) ((rd_T104 x0 x6).f1)) else (none)) else (none)) else (topiaryref13_limited.j1 k x0 x5 x6 0 x307000 ((rd_T104 x0 x6).f0.f0) ((rd_T104 x0 x6).f0.f1) ((rd_T104 x0 x6).f0.f2) ((rd_T104 x0 x6).f0.f3) ((rd_T104 x0 x6).f1))) else (none)) else (if (x307000.length : Int) > 1000 then (some (([] : List ByteArray), ([] : List (S41)), 18)) else (topiaryref13_limited.l1 k x0 0 x307000 ([] : List (S41))))
def topiaryref13_limited.j1 : Nat → List (S104) → List Int → Int → Int → List ByteArray → Int → Int → Int → ByteArray → ByteArray → Option (List ByteArray × (List (S41)) × Int)
 | 0, _, _, _, _, _, _, _, _, _, _ => none
 | k + 1, x0, x5, x6, x8, x307000, x309000, x309001, x309002, x309003, x309004 => if x5.length < 17592186044416 then ((some (x5 ++ [x8] : List Int)).bind fun y310 => (if x309000 = 1 then (topiaryref13_limited.j2 k x0 y310 x6 (decide (x8 > 64)) x307000 x309000 x309001 x309002 x309003 x309004) else (topiaryref13_limited.j2 k x0 y310 x6 false x307000 x309000 x309001 x309002 x309003 x309004))) else (none)
def topiaryref13_limited.j2 : Nat → List (S104) → List Int → Int → Bool → List ByteArray → Int → Int → Int → ByteArray → ByteArray → Option (List ByteArray × (List (S41)) × Int)
 | 0, _, _, _, _, _, _, _, _, _, _ => none
 | k + 1, x0, x5, x6, x47, x307000, x309000, x309001, x309002, x309003, x309004 => if x47 = true then (some (([] : List ByteArray), ([] : List (S41)), 18)) else (if x309000 = 3 then (topiaryref13_limited.l0 k x0 x5 (wrap64 (x6 + 1)) x307000) else ((topiaryref13_with.f k x307000 x309004).bind fun t313 => (topiaryref13_limited.l0 k x0 x5 (wrap64 (x6 + 1)) t313)))
def topiaryref13_limited.l1 : Nat → List (S104) → Int → List ByteArray → List (S41) → Option (List ByteArray × (List (S41)) × Int)
 | 0, _, _, _, _ => none
 | k + 1, x0, x9, x307000, x307001 => if x9 < (x0.length : Int) then (if 0 ≤ x9 then (if ((rd_T104 x0 x9).f0.f0) = 3 then (if x307001.length < 3518437208883 then (topiaryref13_limited.l1 k x0 (wrap64 (x9 + 1)) x307000 (x307001 ++ [(⟨(rd_T104 x0 x9).f0.f0, (rd_T104 x0 x9).f0.f1, (rd_T104 x0 x9).f0.f2, (rd_T104 x0 x9).f0.f3⟩ : S41)])) else (none)) else ((topiaryref13_Number.f k x307000 ((rd_T104 x0 x9).f1)).bind fun t322 => (if x307001.length < 3518437208883 then (topiaryref13_limited.l1 k x0 (wrap64 (x9 + 1)) x307000 (x307001 ++ [(⟨(rd_T104 x0 x9).f0.f0, t322, (rd_T104 x0 x9).f0.f2, (rd_T104 x0 x9).f0.f3⟩ : S41)])) else (none)))) else (none)) else (some (x307000, x307001, 0))
end
def topiaryref13_limited.f (k : Nat) (l0 : List (S104)) : Option (List ByteArray × (List (S41)) × Int) := if (l0.length : Int) > 5000 then (some (([] : List ByteArray), ([] : List (S41)), 18)) else (topiaryref13_limited.l0 k l0 ([] : List Int) 0 ([] : List ByteArray))
theorem topiaryref13_limited.mono_l : ∀ k, (∀ y0 y1 y2 y3, LeO (topiaryref13_limited.l0 k y0 y1 y2 y3) (topiaryref13_limited.l0 (k + 1) y0 y1 y2 y3)) ∧ (∀ y0 y1 y2 y3 y4 y5 y6 y7 y8 y9, LeO (topiaryref13_limited.j1 k y0 y1 y2 y3 y4 y5 y6 y7 y8 y9) (topiaryref13_limited.j1 (k + 1) y0 y1 y2 y3 y4 y5 y6 y7 y8 y9)) ∧ (∀ y0 y1 y2 y3 y4 y5 y6 y7 y8 y9, LeO (topiaryref13_limited.j2 k y0 y1 y2 y3 y4 y5 y6 y7 y8 y9) (topiaryref13_limited.j2 (k + 1) y0 y1 y2 y3 y4 y5 y6 y7 y8 y9)) ∧ (∀ y0 y1 y2 y3, LeO (topiaryref13_limited.l1 k y0 y1 y2 y3) (topiaryref13_limited.l1 (k + 1) y0 y1 y2 y3))
 | 0 => ⟨fun _ _ _ _ r h => by simp [topiaryref13_limited.l0] at h, fun _ _ _ _ _ _ _ _ _ _ r h => by simp [topiaryref13_limited.j1] at h, fun _ _ _ _ _ _ _ _ _ _ r h => by simp [topiaryref13_limited.j2] at h, fun _ _ _ _ r h => by simp [topiaryref13_limited.l1] at h⟩
 | k + 1 => by
  obtain ⟨ih0, ih1, ih2, ih3⟩ := topiaryref13_limited.mono_l k
  refine ⟨?_, ?_, ?_, ?_⟩
  ·intro y0 y1 y2 y3
   unfold topiaryref13_limited.l0
   repeat' first
   | (with_reducible exact ih0 _ _ _ _)
   | (with_reducible exact ih1 _ _ _ _ _ _ _ _ _ _)
   | (with_reducible exact ih2 _ _ _ _ _ _ _ _ _ _)
   | (with_reducible exact ih3 _ _ _ _)
   | (with_reducible exact topiaryref13_Number.mono _ _ _)
   | (with_reducible exact topiaryref13_with.mono _ _ _)
   | (with_reducible exact LeO.refl _)
   | (with_reducible exact LeO.none _)
   | (with_reducible refine LeO.ite ?_ ?_)
   | (with_reducible refine LeO.bind ?_ (fun _ => ?_))
   | exact ih0 _ _ _ _
   | exact ih1 _ _ _ _ _ _ _ _ _ _
   | exact ih2 _ _ _ _ _ _ _ _ _ _
   | exact ih3 _ _ _ _
   | exact topiaryref13_Number.mono _ _ _
   | exact topiaryref13_with.mono _ _ _
   | exact LeO.none _
   | refine LeO.ite ?_ ?_
   | refine LeO.bind ?_ (fun _ => ?_)
  ·intro y0 y1 y2 y3 y4 y5 y6 y7 y8 y9
   unfold topiaryref13_limited.j1
   repeat' first
   | (with_reducible exact ih0 _ _ _ _)
   | (with_reducible exact ih1 _ _ _ _ _ _ _ _ _ _)
   | (with_reducible exact ih2 _ _ _ _ _ _ _ _ _ _)
   | (with_reducible exact ih3 _ _ _ _)
   | (with_reducible exact topiaryref13_Number.mono _ _ _)
   | (with_reducible exact topiaryref13_with.mono _ _ _)
   | (with_reducible exact LeO.refl _)
   | (with_reducible exact LeO.none _)
   | (with_reducible refine LeO.ite ?_ ?_)
   | (with_reducible refine LeO.bind ?_ (fun _ => ?_))
   | exact ih0 _ _ _ _
   | exact ih1 _ _ _ _ _ _ _ _ _ _
   | exact ih2 _ _ _ _ _ _ _ _ _ _
   | exact ih3 _ _ _ _
   | exact topiaryref13_Number.mono _ _ _
   | exact topiaryref13_with.mono _ _ _
   | exact LeO.none _
   | refine LeO.ite ?_ ?_
   | refine LeO.bind ?_ (fun _ => ?_)
  ·intro y0 y1 y2 y3 y4 y5 y6 y7 y8 y9
   unfold topiaryref13_limited.j2
   repeat' first
   | (with_reducible exact ih0 _ _ _ _)
   | (with_reducible exact ih1 _ _ _ _ _ _ _ _ _ _)
   | (with_reducible exact ih2 _ _ _ _ _ _ _ _ _ _)
   | (with_reducible exact ih3 _ _ _ _)
   | (with_reducible exact topiaryref13_Number.mono _ _ _)
   | (with_reducible exact topiaryref13_with.mono _ _ _)
   | (with_reducible exact LeO.refl _)
   | (with_reducible exact LeO.none _)
   | (with_reducible refine LeO.ite ?_ ?_)
   | (with_reducible refine LeO.bind ?_ (fun _ => ?_))
   | exact ih0 _ _ _ _
   | exact ih1 _ _ _ _ _ _ _ _ _ _
   | exact ih2 _ _ _ _ _ _ _ _ _ _
   | exact ih3 _ _ _ _
   | exact topiaryref13_Number.mono _ _ _
   | exact topiaryref13_with.mono _ _ _
   | exact LeO.none _
   | refine LeO.ite ?_ ?_
   | refine LeO.bind ?_ (fun _ => ?_)
  ·intro y0 y1 y2 y3
   unfold topiaryref13_limited.l1
   repeat' first
   | (with_reducible exact ih0 _ _ _ _)
   | (with_reducible exact ih1 _ _ _ _ _ _ _ _ _ _)
   | (with_reducible exact ih2 _ _ _ _ _ _ _ _ _ _)
   | (with_reducible exact ih3 _ _ _ _)
   | (with_reducible exact topiaryref13_Number.mono _ _ _)
   | (with_reducible exact topiaryref13_with.mono _ _ _)
   | (with_reducible exact LeO.refl _)
   | (with_reducible exact LeO.none _)
   | (with_reducible refine LeO.ite ?_ ?_)
   | (with_reducible refine LeO.bind ?_ (fun _ => ?_))
   | exact ih0 _ _ _ _
   | exact ih1 _ _ _ _ _ _ _ _ _ _
   | exact ih2 _ _ _ _ _ _ _ _ _ _
   | exact ih3 _ _ _ _
   | exact topiaryref13_Number.mono _ _ _
   | exact topiaryref13_with.mono _ _ _
   | exact LeO.none _
   | refine LeO.ite ?_ ?_
   | refine LeO.bind ?_ (fun _ => ?_)
theorem topiaryref13_limited.mono : ∀ a0 k, LeO (topiaryref13_limited.f k a0) (topiaryref13_limited.f (k + 1) a0) := by
 intro a0 k
 obtain ⟨ih0, ih1, ih2, ih3⟩ := topiaryref13_limited.mono_l k
 unfold topiaryref13_limited.f
 repeat' first
  | (with_reducible exact ih0 _ _ _ _)
  | (with_reducible exact ih1 _ _ _ _ _ _ _ _ _ _)
  | (with_reducible exact ih2 _ _ _ _ _ _ _ _ _ _)
  | (with_reducible exact ih3 _ _ _ _)
  | (with_reducible exact topiaryref13_Number.mono _ _ _)
  | (with_reducible exact topiaryref13_with.mono _ _ _)
  | (with_reducible exact LeO.refl _)
  | (with_reducible exact LeO.none _)
  | (with_reducible refine LeO.ite ?_ ?_)
  | (with_reducible refine LeO.bind ?_ (fun _ => ?_))
  | exact ih0 _ _ _ _
  | exact ih1 _ _ _ _ _ _ _ _ _ _
  | exact ih2 _ _ _ _ _ _ _ _ _ _
  | exact ih3 _ _ _ _
  | exact topiaryref13_Number.mono _ _ _
  | exact topiaryref13_with.mono _ _ _
  | exact LeO.none _
  | refine LeO.ite ?_ ?_
  | refine LeO.bind ?_ (fun _ => ?_)
def topiaryref13_Parse.j0 : Nat → List (S51) → List (S104) → Int → Bool → Option (List ByteArray × (List (S41)) × Int)
 | 0, _, _, _, _ => none
 | k + 1, x4, x9, x10, x43 => if x43 = true then (some (([] : List ByteArray), ([] : List (S41)), 15)) else ((topiaryref13_texts.f k x4 x10).bind fun bt339 => ((topiaryref13_spaces.f k bt339.1).bind fun t341 => (if t341 = true then (if bt339.2 < (x4.length : Int) then (some (([] : List ByteArray), ([] : List (S41)), 15)) else ((topiaryref13_limited.f k x9).bind fun bt342 => (some (bt342.1, bt342.2.1, bt342.2.2)))) else (some (([] : List ByteArray), ([] : List (S41)), 15)))))
def topiaryref13_Parse.f (k : Nat) (a0 : ByteArray) : Option (List ByteArray × (List (S41)) × Int) := (topiaryref12_Lex.f k a0).bind fun bt327 => (if bt327.2 = 0 then ((topiaryref13_texts.f k bt327.1 0).bind fun bt331 => ((topiaryref13_spaces.f k bt331.1).bind fun t333 => ((topiaryref13_element.f k bt327.1 bt331.2 (-1) ([] : List (S104)) 0).bind fun bt334 => (if t333 = true then (topiaryref13_Parse.j0 k bt327.1 bt334.1 bt334.2.1 (!bt334.2.2)) else (topiaryref13_Parse.j0 k bt327.1 bt334.1 bt334.2.1 true))))) else (some (([] : List ByteArray), ([] : List (S41)), bt327.2)))
theorem topiaryref13_Parse.mono_l : ∀ k, (∀ y0 y1 y2 y3, LeO (topiaryref13_Parse.j0 k y0 y1 y2 y3) (topiaryref13_Parse.j0 (k + 1) y0 y1 y2 y3))
 | 0 => fun _ _ _ _ r h => by simp [topiaryref13_Parse.j0] at h
 | k + 1 => by
  have ih0 := topiaryref13_Parse.mono_l k
  ·intro y0 y1 y2 y3
   unfold topiaryref13_Parse.j0
   repeat' first
   | (with_reducible exact ih0 _ _ _ _)
   | (with_reducible exact topiaryref12_Lex.mono _ _)
   | (with_reducible exact topiaryref13_element.mono _ _ _ _ _ _)
   | (with_reducible exact topiaryref13_limited.mono _ _)
   | (with_reducible exact topiaryref13_spaces.mono _ _)
   | (with_reducible exact topiaryref13_texts.mono _ _ _)
   | (with_reducible exact LeO.refl _)
   | (with_reducible exact LeO.none _)
   | (with_reducible refine LeO.ite ?_ ?_)
   | (with_reducible refine LeO.bind ?_ (fun _ => ?_))
   | exact ih0 _ _ _ _
   | exact topiaryref12_Lex.mono _ _
   | exact topiaryref13_element.mono _ _ _ _ _ _
   | exact topiaryref13_limited.mono _ _
   | exact topiaryref13_spaces.mono _ _
   | exact topiaryref13_texts.mono _ _ _
   | exact LeO.none _
   | refine LeO.ite ?_ ?_
   | refine LeO.bind ?_ (fun _ => ?_)
theorem topiaryref13_Parse.mono : ∀ a0 k, LeO (topiaryref13_Parse.f k a0) (topiaryref13_Parse.f (k + 1) a0) := by
 intro a0 k
 have ih0 := topiaryref13_Parse.mono_l k
 unfold topiaryref13_Parse.f
 repeat' first
  | (with_reducible exact ih0 _ _ _ _)
  | (with_reducible exact topiaryref12_Lex.mono _ _)
  | (with_reducible exact topiaryref13_element.mono _ _ _ _ _ _)
  | (with_reducible exact topiaryref13_limited.mono _ _)
  | (with_reducible exact topiaryref13_spaces.mono _ _)
  | (with_reducible exact topiaryref13_texts.mono _ _ _)
  | (with_reducible exact LeO.refl _)
  | (with_reducible exact LeO.none _)
  | (with_reducible refine LeO.ite ?_ ?_)
  | (with_reducible refine LeO.bind ?_ (fun _ => ?_))
  | exact ih0 _ _ _ _
  | exact topiaryref12_Lex.mono _ _
  | exact topiaryref13_element.mono _ _ _ _ _ _
  | exact topiaryref13_limited.mono _ _
  | exact topiaryref13_spaces.mono _ _
  | exact topiaryref13_texts.mono _ _ _
  | exact LeO.none _
  | refine LeO.ite ?_ ?_
  | refine LeO.bind ?_ (fun _ => ?_)
mutual
def topiaryref13_Same.j0 : Nat → Bool → List ByteArray → List (S41) → List ByteArray → List (S41) → Option (Bool)
 | 0, _, _, _, _, _ => none
 | k + 1, x22, x350000, x350001, x351000, x351001 => if x22 = true then (some false) else (topiaryref13_Same.l0 k 0 x350000 x350001 x351000 x351001)
def topiaryref13_Same.l0 : Nat → Int → List ByteArray → List (S41) → List ByteArray → List (S41) → Option (Bool)
 | 0, _, _, _, _, _ => none
 | k + 1, x5, x350000, x350001, x351000, x351001 => if x5 < (x350000.length : Int) then (if 0 ≤ x5 then (if x5 < (x351000.length : Int) then (if (rdOf ByteArray.empty x350000 x5).toList = (rdOf ByteArray.empty x351000 x5).toList then (topiaryref13_Same.l0 k (wrap64 (x5 + 1)) x350000 x350001 x351000 x351001) else (some false)) else (none)) else (none)) else (topiaryref13_Same.l1 k 0 x350000 x350001 x351000 x351001)
def topiaryref13_Same.l1 : Nat → Int → List ByteArray → List (S41) → List ByteArray → List (S41) → Option (Bool)
 | 0, _, _, _, _, _ => none
 | k + 1, x6, x350000, x350001, x351000, x351001 => if x6 < (x350001.length : Int) then (if 0 ≤ x6 then (if x6 < (x351001.length : Int) then (if (!(((rd_T41 x350001 x6).f0) == ((rd_T41 x351001 x6).f0)) || (!(((rd_T41 x350001 x6).f1) == ((rd_T41 x351001 x6).f1)) || (!(((rd_T41 x350001 x6).f2) == ((rd_T41 x351001 x6).f2)) || (!((((rd_T41 x350001 x6).f3).toList) == (((rd_T41 x351001 x6).f3).toList)))))) = true then (some false) else (topiaryref13_Same.l1 k (wrap64 (x6 + 1)) x350000 x350001 x351000 x351001)) else (none)) else (none)) else (some true)
end
def topiaryref13_Same.f (k : Nat) (l0_0 : List ByteArray) (l0_1 : List (S41)) (l1_0 : List ByteArray) (l1_1 : List (S41)) : Option (Bool) := if (l0_0.length : Int) = (l1_0.length : Int) then (topiaryref13_Same.j0 k ((l0_1.length : Int) != (l1_1.length : Int)) l0_0 l0_1 l1_0 l1_1) else (topiaryref13_Same.j0 k true l0_0 l0_1 l1_0 l1_1)
theorem topiaryref13_Same.mono_l : ∀ k, (∀ y0 y1 y2 y3 y4, LeO (topiaryref13_Same.j0 k y0 y1 y2 y3 y4) (topiaryref13_Same.j0 (k + 1) y0 y1 y2 y3 y4)) ∧ (∀ y0 y1 y2 y3 y4, LeO (topiaryref13_Same.l0 k y0 y1 y2 y3 y4) (topiaryref13_Same.l0 (k + 1) y0 y1 y2 y3 y4)) ∧ (∀ y0 y1 y2 y3 y4, LeO (topiaryref13_Same.l1 k y0 y1 y2 y3 y4) (topiaryref13_Same.l1 (k + 1) y0 y1 y2 y3 y4))
 | 0 => ⟨fun _ _ _ _ _ r h => by simp [topiaryref13_Same.j0] at h, fun _ _ _ _ _ r h => by simp [topiaryref13_Same.l0] at h, fun _ _ _ _ _ r h => by simp [topiaryref13_Same.l1] at h⟩
 | k + 1 => by
  obtain ⟨ih0, ih1, ih2⟩ := topiaryref13_Same.mono_l k
  refine ⟨?_, ?_, ?_⟩
  ·intro y0 y1 y2 y3 y4
   unfold topiaryref13_Same.j0
   repeat' first
   | (with_reducible exact ih0 _ _ _ _ _)
   | (with_reducible exact ih1 _ _ _ _ _)
   | (with_reducible exact ih2 _ _ _ _ _)
   | (with_reducible exact LeO.refl _)
   | (with_reducible exact LeO.none _)
   | (with_reducible refine LeO.ite ?_ ?_)
   | (with_reducible refine LeO.bind ?_ (fun _ => ?_))
   | exact ih0 _ _ _ _ _
   | exact ih1 _ _ _ _ _
   | exact ih2 _ _ _ _ _
   | exact LeO.none _
   | refine LeO.ite ?_ ?_
   | refine LeO.bind ?_ (fun _ => ?_)
  ·intro y0 y1 y2 y3 y4
   unfold topiaryref13_Same.l0
   repeat' first
   | (with_reducible exact ih0 _ _ _ _ _)
   | (with_reducible exact ih1 _ _ _ _ _)
   | (with_reducible exact ih2 _ _ _ _ _)
   | (with_reducible exact LeO.refl _)
   | (with_reducible exact LeO.none _)
   | (with_reducible refine LeO.ite ?_ ?_)
   | (with_reducible refine LeO.bind ?_ (fun _ => ?_))
   | exact ih0 _ _ _ _ _
   | exact ih1 _ _ _ _ _
   | exact ih2 _ _ _ _ _
   | exact LeO.none _
   | refine LeO.ite ?_ ?_
   | refine LeO.bind ?_ (fun _ => ?_)
  ·intro y0 y1 y2 y3 y4
   unfold topiaryref13_Same.l1
   repeat' first
   | (with_reducible exact ih0 _ _ _ _ _)
   | (with_reducible exact ih1 _ _ _ _ _)
   | (with_reducible exact ih2 _ _ _ _ _)
   | (with_reducible exact LeO.refl _)
   | (with_reducible exact LeO.none _)
   | (with_reducible refine LeO.ite ?_ ?_)
   | (with_reducible refine LeO.bind ?_ (fun _ => ?_))
   | exact ih0 _ _ _ _ _
   | exact ih1 _ _ _ _ _
   | exact ih2 _ _ _ _ _
   | exact LeO.none _
   | refine LeO.ite ?_ ?_
   | refine LeO.bind ?_ (fun _ => ?_)
theorem topiaryref13_Same.mono : ∀ a0 a1 a2 a3 k, LeO (topiaryref13_Same.f k a0 a1 a2 a3) (topiaryref13_Same.f (k + 1) a0 a1 a2 a3) := by
 intro a0 a1 a2 a3 k
 obtain ⟨ih0, ih1, ih2⟩ := topiaryref13_Same.mono_l k
 unfold topiaryref13_Same.f
 repeat' first
  | (with_reducible exact ih0 _ _ _ _ _)
  | (with_reducible exact ih1 _ _ _ _ _)
  | (with_reducible exact ih2 _ _ _ _ _)
  | (with_reducible exact LeO.refl _)
  | (with_reducible exact LeO.none _)
  | (with_reducible refine LeO.ite ?_ ?_)
  | (with_reducible refine LeO.bind ?_ (fun _ => ?_))
  | exact ih0 _ _ _ _ _
  | exact ih1 _ _ _ _ _
  | exact ih2 _ _ _ _ _
  | exact LeO.none _
  | refine LeO.ite ?_ ?_
  | refine LeO.bind ?_ (fun _ => ?_)
set_option maxHeartbeats 8000000 in
set_option maxRecDepth 100000 in
theorem topiaryref13_Same.calls (k : Nat) (A0_0 : Option Addr) (c0_0 : Nat) (l0_0 : List ByteArray) (A0_1 : Option Addr) (c0_1 : Nat) (l0_1 : List (S41)) (A1_0 : Option Addr) (c1_0 : Nat) (l1_0 : List ByteArray) (A1_1 : Option Addr) (c1_1 : Nat) (l1_1 : List (S41)) (r : Bool) (w : World) (hr0_0 : Kd.C Kd.string w A0_0 l0_0.length l0_0) (hc0_0 : l0_0.length ≤ c0_0) (hr0_1 : Kd.C k41 w A0_1 l0_1.length l0_1) (hc0_1 : l0_1.length ≤ c0_1) (hr1_0 : Kd.C Kd.string w A1_0 l1_0.length l1_0) (hc1_0 : l1_0.length ≤ c1_0) (hr1_1 : Kd.C k41 w A1_1 l1_1.length l1_1) (hc1_1 : l1_1.length ≤ c1_1) (h : topiaryref13_Same.f k l0_0 l0_1 l1_0 l1_1 = some r) :
 Calls Tryz.prog 14 #[.agg #[.slice A0_0 l0_0.length c0_0, .slice A0_1 l0_1.length c0_1], .agg #[.slice A1_0 l1_0.length c1_0, .slice A1_1 l1_1.length c1_1]] w fun e w' => e = .returned (.bool r) ∧ Below w.heap.size w w' := by
 have hu27 := Tryz.underlying27
 have hu41 := Tryz.underlying41
 have HR0_0 := Aside0.mk hr0_0
 have HC0_0 := Aside0.mk hc0_0
 clear hr0_0 hc0_0
 have HR0_1 := Aside0.mk hr0_1
 have HC0_1 := Aside0.mk hc0_1
 clear hr0_1 hc0_1
 have HR1_0 := Aside0.mk hr1_0
 have HC1_0 := Aside0.mk hc1_0
 clear hr1_0 hc1_0
 have HR1_1 := Aside0.mk hr1_1
 have HC1_1 := Aside0.mk hc1_1
 clear hr1_1 hc1_1
 have HB := Aside0.mk (Below.refl w.heap.size w)
 have H : (if (l0_0.length : Int) = (l1_0.length : Int) then (topiaryref13_Same.j0 k ((l0_1.length : Int) != (l1_1.length : Int)) l0_0 l0_1 l1_0 l1_1) else (topiaryref13_Same.j0 k true l0_0 l0_1 l1_0 l1_1)) = some r := h
 clear h
 have HC3 := Aside0.mk H
 clear H
 go_enter Tryz.func14, Tryz.ntmps14
 go_upto_region 1 with (first | ((with_reducible refine gate_dst (N := 2) rfl ?_); (((refine gate_guard (by rfl) ?_; dsimp only))); refine box_event ?hg (N := 2) ?hd (cs := #[.slice A0_0 l0_0.length c0_0, .slice A0_1 l0_1.length c0_1]) (t := 27) ?hr ?_; (case hd => rfl); (case hg => rfl); (case hr => ((go_simp; done))); intro gb349 hg w4 hbox hb; have n0_ := Aside0.mk (below_step (by repeat ((with_reducible exact HB.out))) hb); have n1_ := Aside0.mk (hbox); have n2_ := Aside0.mk ((by rw [hg]; exact (below_size (by repeat ((with_reducible exact HB.out)))) : w.heap.size ≤ gb349)); have n3_ := Aside0.mk ((by rw [hg]; exact (below_size (by repeat ((with_reducible exact HB.out)))) : w.heap.size ≤ gb349)); clear HB; have HB := n0_; have BK349 := n1_; have GW349 := n2_; have GE349 := n3_; clear n0_ n1_ n2_ n3_; clear hb hbox hg) | ((with_reducible refine gate_dst (N := 3) rfl ?_); (((refine gate_guard (by rfl) ?_; dsimp only))); refine box_event ?hg (N := 3) ?hd (cs := #[.slice A1_0 l1_0.length c1_0, .slice A1_1 l1_1.length c1_1]) (t := 27) ?hr ?_; (case hd => rfl); (case hg => rfl); (case hr => ((go_simp; done))); intro gb350 hg w5 hbox hb; have n0_ := Aside0.mk (blk_below (g := gb349) (o := .cells #[.slice A0_0 l0_0.length c0_0, .slice A0_1 l0_1.length c0_1] 27 (0, 0)) (by (with_reducible repeat (first | refine blk_drewN ?_ _ | refine blk_drew ?_ | refine blk_alloc ?_ _)); exact BK349.out) hb); have n1_ := Aside0.mk (below_step (by repeat ((with_reducible exact HB.out))) hb); have n2_ := Aside0.mk (hbox); have n3_ := Aside0.mk ((by rw [hg]; exact (below_size (by repeat ((with_reducible exact HB.out)))) : w.heap.size ≤ gb350)); have n4_ := Aside0.mk ((by rw [hg]; exact (below_size (by repeat ((with_reducible exact HB.out)))) : w.heap.size ≤ gb350)); have n5_ := Aside0.mk ((by rw [hg]; exact Nat.ne_of_lt (blk_lt (g := gb349) (o := .cells #[.slice A0_0 l0_0.length c0_0, .slice A0_1 l0_1.length c0_1] 27 (0, 0)) (by (with_reducible repeat (first | refine blk_drewN ?_ _ | refine blk_drew ?_ | refine blk_alloc ?_ _)); exact BK349.out)) : gb349 ≠ gb350)); have n6_ := Aside0.mk ((by rw [hg]; exact Nat.ne_of_gt (blk_lt (g := gb349) (o := .cells #[.slice A0_0 l0_0.length c0_0, .slice A0_1 l0_1.length c0_1] 27 (0, 0)) (by (with_reducible repeat (first | refine blk_drewN ?_ _ | refine blk_drew ?_ | refine blk_alloc ?_ _)); exact BK349.out)) : gb350 ≠ gb349)); clear BK349; clear HB; have BK349 := n0_; have HB := n1_; have BK350 := n2_; have GW350 := n3_; have GE350 := n4_; have NB349_350 := n5_; have NB350_349 := n6_; clear n0_ n1_ n2_ n3_ n4_ n5_ n6_; clear hb hbox hg))
 repeat (go_quiet (first | ((with_reducible refine gate_dst (N := 2) rfl ?_); (try (refine gate_guard (by rfl) ?_; dsimp only)); refine box_event ?hg (N := 2) ?hd (cs := #[.slice A0_0 l0_0.length c0_0, .slice A0_1 l0_1.length c0_1]) (t := 27) ?hr ?_; (case hd => rfl); (case hg => rfl); (case hr => first | (go_simp; done) | (go_simp; rfl)); intro gb349 hg w4 hbox hb; have n0_ := Aside0.mk (below_step (by repeat (first | (with_reducible first | exact HB.out | apply below_alloc | apply pw_below_drewN | apply below_drew1) | exact HB.out)) hb); have n1_ := Aside0.mk (hbox); have n2_ := Aside0.mk ((by rw [hg]; exact (below_size (by repeat (first | (with_reducible first | exact HB.out | apply below_alloc | apply pw_below_drewN | apply below_drew1) | exact HB.out))) : w.heap.size ≤ gb349)); have n3_ := Aside0.mk ((by rw [hg]; exact (below_size (by repeat (first | (with_reducible first | exact HB.out | apply below_alloc | apply pw_below_drewN | apply below_drew1) | exact HB.out))) : w.heap.size ≤ gb349)); clear HB; have HB := n0_; have BK349 := n1_; have GW349 := n2_; have GE349 := n3_; clear n0_ n1_ n2_ n3_; clear hb hbox hg) | ((with_reducible refine gate_dst (N := 3) rfl ?_); (try (refine gate_guard (by rfl) ?_; dsimp only)); refine box_event ?hg (N := 3) ?hd (cs := #[.slice A1_0 l1_0.length c1_0, .slice A1_1 l1_1.length c1_1]) (t := 27) ?hr ?_; (case hd => rfl); (case hg => rfl); (case hr => first | (go_simp; done) | (go_simp; rfl)); intro gb350 hg w5 hbox hb; have n0_ := Aside0.mk (blk_below (g := gb349) (o := .cells #[.slice A0_0 l0_0.length c0_0, .slice A0_1 l0_1.length c0_1] 27 (0, 0)) (by (with_reducible repeat (first | refine blk_drewN ?_ _ | refine blk_drew ?_ | refine blk_alloc ?_ _)); exact BK349.out) hb); have n1_ := Aside0.mk (below_step (by repeat (first | (with_reducible first | exact HB.out | apply below_alloc | apply pw_below_drewN | apply below_drew1 | refine below_set ?_ GE349.out) | exact HB.out)) hb); have n2_ := Aside0.mk (hbox); have n3_ := Aside0.mk ((by rw [hg]; exact (below_size (by repeat (first | (with_reducible first | exact HB.out | apply below_alloc | apply pw_below_drewN | apply below_drew1 | refine below_set ?_ GE349.out) | exact HB.out))) : w.heap.size ≤ gb350)); have n4_ := Aside0.mk ((by rw [hg]; exact (below_size (by repeat (first | (with_reducible first | exact HB.out | apply below_alloc | apply pw_below_drewN | apply below_drew1 | refine below_set ?_ GE349.out) | exact HB.out))) : w.heap.size ≤ gb350)); have n5_ := Aside0.mk ((by rw [hg]; exact Nat.ne_of_lt (blk_lt (g := gb349) (o := .cells #[.slice A0_0 l0_0.length c0_0, .slice A0_1 l0_1.length c0_1] 27 (0, 0)) (by (with_reducible repeat (first | refine blk_drewN ?_ _ | refine blk_drew ?_ | refine blk_alloc ?_ _)); exact BK349.out)) : gb349 ≠ gb350)); have n6_ := Aside0.mk ((by rw [hg]; exact Nat.ne_of_gt (blk_lt (g := gb349) (o := .cells #[.slice A0_0 l0_0.length c0_0, .slice A0_1 l0_1.length c0_1] 27 (0, 0)) (by (with_reducible repeat (first | refine blk_drewN ?_ _ | refine blk_drew ?_ | refine blk_alloc ?_ _)); exact BK349.out)) : gb350 ≠ gb349)); clear BK349; clear HB; have BK349 := n0_; have HB := n1_; have BK350 := n2_; have GW350 := n3_; have GE350 := n4_; have NB349_350 := n5_; have NB350_349 := n6_; clear n0_ n1_ n2_ n3_ n4_ n5_ n6_; clear hb hbox hg)); go_upto_region 1 with (first | ((with_reducible refine gate_dst (N := 2) rfl ?_); (try (refine gate_guard (by rfl) ?_; dsimp only)); refine box_event ?hg (N := 2) ?hd (cs := #[.slice A0_0 l0_0.length c0_0, .slice A0_1 l0_1.length c0_1]) (t := 27) ?hr ?_; (case hd => rfl); (case hg => rfl); (case hr => first | (go_simp; done) | (go_simp; rfl)); intro gb349 hg w4 hbox hb; have n0_ := Aside0.mk (below_step (by repeat (first | (with_reducible first | exact HB.out | apply below_alloc | apply pw_below_drewN | apply below_drew1) | exact HB.out)) hb); have n1_ := Aside0.mk (hbox); have n2_ := Aside0.mk ((by rw [hg]; exact (below_size (by repeat (first | (with_reducible first | exact HB.out | apply below_alloc | apply pw_below_drewN | apply below_drew1) | exact HB.out))) : w.heap.size ≤ gb349)); have n3_ := Aside0.mk ((by rw [hg]; exact (below_size (by repeat (first | (with_reducible first | exact HB.out | apply below_alloc | apply pw_below_drewN | apply below_drew1) | exact HB.out))) : w.heap.size ≤ gb349)); clear HB; have HB := n0_; have BK349 := n1_; have GW349 := n2_; have GE349 := n3_; clear n0_ n1_ n2_ n3_; clear hb hbox hg) | ((with_reducible refine gate_dst (N := 3) rfl ?_); (try (refine gate_guard (by rfl) ?_; dsimp only)); refine box_event ?hg (N := 3) ?hd (cs := #[.slice A1_0 l1_0.length c1_0, .slice A1_1 l1_1.length c1_1]) (t := 27) ?hr ?_; (case hd => rfl); (case hg => rfl); (case hr => first | (go_simp; done) | (go_simp; rfl)); intro gb350 hg w5 hbox hb; have n0_ := Aside0.mk (blk_below (g := gb349) (o := .cells #[.slice A0_0 l0_0.length c0_0, .slice A0_1 l0_1.length c0_1] 27 (0, 0)) (by (with_reducible repeat (first | refine blk_drewN ?_ _ | refine blk_drew ?_ | refine blk_alloc ?_ _)); exact BK349.out) hb); have n1_ := Aside0.mk (below_step (by repeat (first | (with_reducible first | exact HB.out | apply below_alloc | apply pw_below_drewN | apply below_drew1 | refine below_set ?_ GE349.out) | exact HB.out)) hb); have n2_ := Aside0.mk (hbox); have n3_ := Aside0.mk ((by rw [hg]; exact (below_size (by repeat (first | (with_reducible first | exact HB.out | apply below_alloc | apply pw_below_drewN | apply below_drew1 | refine below_set ?_ GE349.out) | exact HB.out))) : w.heap.size ≤ gb350)); have n4_ := Aside0.mk ((by rw [hg]; exact (below_size (by repeat (first | (with_reducible first | exact HB.out | apply below_alloc | apply pw_below_drewN | apply below_drew1 | refine below_set ?_ GE349.out) | exact HB.out))) : w.heap.size ≤ gb350)); have n5_ := Aside0.mk ((by rw [hg]; exact Nat.ne_of_lt (blk_lt (g := gb349) (o := .cells #[.slice A0_0 l0_0.length c0_0, .slice A0_1 l0_1.length c0_1] 27 (0, 0)) (by (with_reducible repeat (first | refine blk_drewN ?_ _ | refine blk_drew ?_ | refine blk_alloc ?_ _)); exact BK349.out)) : gb349 ≠ gb350)); have n6_ := Aside0.mk ((by rw [hg]; exact Nat.ne_of_gt (blk_lt (g := gb349) (o := .cells #[.slice A0_0 l0_0.length c0_0, .slice A0_1 l0_1.length c0_1] 27 (0, 0)) (by (with_reducible repeat (first | refine blk_drewN ?_ _ | refine blk_drew ?_ | refine blk_alloc ?_ _)); exact BK349.out)) : gb350 ≠ gb349)); clear BK349; clear HB; have BK349 := n0_; have HB := n1_; have BK350 := n2_; have GW350 := n3_; have GE350 := n4_; have NB349_350 := n5_; have NB350_349 := n6_; clear n0_ n1_ n2_ n3_ n4_ n5_ n6_; clear hb hbox hg)))
 go_cut [22] (fun v22 wc => ∃ (kq : Nat) (x22_2 : Bool), v22 = .bool x22_2 ∧ Aside0 (topiaryref13_Same.j0 kq x22_2 l0_0 l0_1 l1_0 l1_1 = some r) ∧ Aside0 (kq ≤ k) ∧ Aside0 (wc.heap[gb349]? = some (.cells #[(.slice A0_0 l0_0.length c0_0), (.slice A0_1 l0_1.length c0_1)] 27 (0, 0))) ∧ Aside0 (wc.heap[gb350]? = some (.cells #[(.slice A1_0 l1_0.length c1_0), (.slice A1_1 l1_1.length c1_1)] 27 (0, 0))) ∧ Aside0 (Below w.heap.size w wc))
 case first =>
  have H := HC3.out
  clear HC3
  by_cases c6 : (l0_0.length : Int) = (l1_0.length : Int)
  rw [if_pos c6] at H
  have c6b0 : ((l0_0.length : Int) == (l1_0.length : Int)) = true := beq_iff_eq.mpr c6
  have c6b1 : ((l0_0.length : Int) != (l1_0.length : Int)) = false := bne_eq_false_iff_eq.mpr c6
  have c6b2 : (l0_0.length == l1_0.length) = true := by ((simp at c6 ⊢; omega))
  clear c6
  rotate_left
  rw [if_neg c6] at H
  have c6b0 : ((l0_0.length : Int) == (l1_0.length : Int)) = false := beq_eq_false_iff_ne.mpr c6
  have c6b1 : ((l0_0.length : Int) != (l1_0.length : Int)) = true := bne_iff_ne.mpr c6
  have c6b2 : (l0_0.length == l1_0.length) = false := by ((simp at c6 ⊢; omega))
  rotate_left
  all_goals
   have H' := Aside0.mk H
   clear H
   have hnbz1 := NB349_350.out
   have hncz1 := NB350_349.out
   have hczz1 : w5.cell? ⟨gb349, 0, none⟩ = some (.slice A0_0 l0_0.length c0_0) := (blk_cell BK349.out 0).trans rfl
   have hczz2 : w5.cell? ⟨gb349, 1, none⟩ = some (.slice A0_1 l0_1.length c0_1) := (blk_cell BK349.out 1).trans rfl
   have hfzz1 := blk_frozen BK349.out 0
   have hfzz2 := blk_frozen BK349.out 1
   have hczz3 : w5.cell? ⟨gb350, 0, none⟩ = some (.slice A1_0 l1_0.length c1_0) := (blk_cell BK350.out 0).trans rfl
   have hczz4 : w5.cell? ⟨gb350, 1, none⟩ = some (.slice A1_1 l1_1.length c1_1) := (blk_cell BK350.out 1).trans rfl
   have hfzz3 := blk_frozen BK350.out 0
   have hfzz4 := blk_frozen BK350.out 1
   go_wp2
   repeat (go_quiet (fail); try go_wp2)
   go_meet
   case rel => first | (exact ⟨_, (((l0_1.length : Int) != (l1_1.length : Int))), (by rfl), H', ⟨by first | omega | exact Nat.le_refl _⟩, ⟨by (with_reducible repeat (first | refine blk_drewN ?_ _ | refine blk_drew ?_ | refine blk_alloc ?_ _)); exact BK349.out⟩, ⟨by (with_reducible repeat (first | refine blk_drewN ?_ _ | refine blk_drew ?_ | refine blk_alloc ?_ _)); exact BK350.out⟩, ⟨by repeat ((with_reducible exact HB.out))⟩⟩) | (exact ⟨_, (true), (by rfl), H', ⟨by omega⟩, ⟨by (with_reducible repeat (first | refine blk_drewN ?_ _ | refine blk_drew ?_ | refine blk_alloc ?_ _)); exact BK349.out⟩, ⟨by (with_reducible repeat (first | refine blk_drewN ?_ _ | refine blk_drew ?_ | refine blk_alloc ?_ _)); exact BK350.out⟩, ⟨by repeat ((with_reducible exact HB.out))⟩⟩)
 case rest =>
  clear HC3
  obtain ⟨kq, x22_2, rfl, HA, HJ2, BK349, BK350, HB⟩ := hcut
  cases kq with
  | zero => exact absurd HA.out (by simp [topiaryref13_Same.j0])
  | succ kj2 =>
   have H := HA.out
   clear HA
   simp only [topiaryref13_Same.j0] at H
   by_cases c13 : x22_2 = true
   ·subst c13
    rw [if_pos rfl] at H
    obtain rfl := Option.some.inj H
    go_wp2
    repeat (go_quiet (fail); try go_wp2)
    go_ret
    exact ⟨by rfl, by repeat ((with_reducible exact HB.out))⟩
   ·replace c13 := Bool.eq_false_iff.mpr c13
    subst c13
    rw [if_neg (show ¬ (false = true) by decide)] at H
    have H' := Aside0.mk H
    clear H
    go_wp2
    repeat (go_quiet (fail); try go_wp2)
    go_loopg [5] kj2 (fun kq v5 w' => ∃ (x5_2 : Int), v5 = .int .i64 x5_2 ∧ Aside0 (topiaryref13_Same.l0 kq x5_2 l0_0 l0_1 l1_0 l1_1 = some r) ∧ Aside0 (kq ≤ kj2) ∧ Aside0 (w'.heap[gb349]? = some (.cells #[(.slice A0_0 l0_0.length c0_0), (.slice A0_1 l0_1.length c0_1)] 27 (0, 0))) ∧ Aside0 (w'.heap[gb350]? = some (.cells #[(.slice A1_0 l1_0.length c1_0), (.slice A1_1 l1_1.length c1_1)] 27 (0, 0))) ∧ Aside0 (Below w.heap.size w w'))
    case atStart => exact ⟨(0), (by rfl), H', ⟨Nat.le_refl _⟩, ⟨by (with_reducible repeat (first | refine blk_drewN ?_ _ | refine blk_drew ?_ | refine blk_alloc ?_ _)); exact BK349.out⟩, ⟨by (with_reducible repeat (first | refine blk_drewN ?_ _ | refine blk_drew ?_ | refine blk_alloc ?_ _)); exact BK350.out⟩, ⟨by repeat ((with_reducible exact HB.out))⟩⟩
    case round =>
     clear H'
     obtain ⟨x5_2, rfl, HA, HK2, BK349, BK350, HB⟩ := hrel
     cases gk with
     | zero => exact absurd HA.out (by simp [topiaryref13_Same.l0])
     | succ k2 =>
      have H := HA.out
      clear HA
      simp only [topiaryref13_Same.l0] at H
      revert H; refine X.ite_d (fun c14b0 H => ?_) (fun c14b0 H => ?_)
      by_cases c15 : 0 ≤ x5_2
      rw [if_pos c15] at H
      have c15b0 : decide (0 ≤ x5_2) = true := decide_eq_true c15
      clear c15
      by_cases c16 : x5_2 < (l1_0.length : Int)
      rw [if_pos c16] at H
      have c16b0 : decide (x5_2 < (l1_0.length : Int)) = true := decide_eq_true c16
      clear c16
      revert H; refine X.ite_b (fun c17b0 c17b1 H => ?_) (fun c17b0 c17b1 H => ?_)
      rotate_left
      rotate_left
      ·rw [if_neg c16] at H
       exact absurd H (by simp)
      ·rw [if_neg c15] at H
       exact absurd H (by simp)
      ·have H' := Aside0.mk H
       clear H
       have hnb24 := NB349_350.out
       have hnc24 := NB350_349.out
       have hcz25_0 : wr.cell? ⟨gb349, 0, none⟩ = some (.slice A0_0 l0_0.length c0_0) := (blk_cell BK349.out 0).trans rfl
       have hcz25_1 : wr.cell? ⟨gb349, 1, none⟩ = some (.slice A0_1 l0_1.length c0_1) := (blk_cell BK349.out 1).trans rfl
       have hfz25_0 := blk_frozen BK349.out 0
       have hfz25_1 := blk_frozen BK349.out 1
       go_wp2
       repeat (go_quiet (fail); try go_wp2)
       go_loopg [6] k2 (fun kq v6 w' => ∃ (x6_3 : Int), v6 = .int .i64 x6_3 ∧ Aside0 (topiaryref13_Same.l1 kq x6_3 l0_0 l0_1 l1_0 l1_1 = some r) ∧ Aside0 (kq ≤ k2) ∧ Aside0 (w'.heap[gb349]? = some (.cells #[(.slice A0_0 l0_0.length c0_0), (.slice A0_1 l0_1.length c0_1)] 27 (0, 0))) ∧ Aside0 (w'.heap[gb350]? = some (.cells #[(.slice A1_0 l1_0.length c1_0), (.slice A1_1 l1_1.length c1_1)] 27 (0, 0))) ∧ Aside0 (Below w.heap.size w w'))
       case atStart => exact ⟨(0), (by rfl), H', ⟨Nat.le_refl _⟩, ⟨by (with_reducible repeat (first | refine blk_drewN ?_ _ | refine blk_drew ?_ | refine blk_alloc ?_ _)); exact BK349.out⟩, ⟨by (with_reducible repeat (first | refine blk_drewN ?_ _ | refine blk_drew ?_ | refine blk_alloc ?_ _)); exact BK350.out⟩, ⟨by repeat ((with_reducible exact HB.out))⟩⟩
       case round =>
        clear H'
        clear c14b0
        clear hcz25_0
        clear hcz25_1
        clear hfz25_0
        clear hfz25_1
        obtain ⟨x6_3, rfl, HA, HK3, BK349, BK350, HB⟩ := hrel
        cases gk with
        | zero => exact absurd HA.out (by simp [topiaryref13_Same.l1])
        | succ k3 =>
         have H := HA.out
         clear HA
         simp only [topiaryref13_Same.l1] at H
         by_cases c26 : x6_3 < (l0_1.length : Int)
         ·rw [if_pos c26] at H
          have c26b0 : decide (x6_3 < (l0_1.length : Int)) = true := decide_eq_true c26
          clear c26
          by_cases c27 : 0 ≤ x6_3
          ·rw [if_pos c27] at H
           have c27b0 : decide (0 ≤ x6_3) = true := decide_eq_true c27
           clear c27
           by_cases c28 : x6_3 < (l1_1.length : Int)
           ·rw [if_pos c28] at H
            have c28b0 : decide (x6_3 < (l1_1.length : Int)) = true := decide_eq_true c28
            clear c28
            by_cases c29 : (!(((rd_T41 l0_1 x6_3).f0) == ((rd_T41 l1_1 x6_3).f0)) || (!(((rd_T41 l0_1 x6_3).f1) == ((rd_T41 l1_1 x6_3).f1)) || (!(((rd_T41 l0_1 x6_3).f2) == ((rd_T41 l1_1 x6_3).f2)) || (!((((rd_T41 l0_1 x6_3).f3).toList) == (((rd_T41 l1_1 x6_3).f3).toList)))))) = true
            ·rw [if_pos c29] at H
             have c29b0 : (!(((rd_T41 l0_1 x6_3).f0) == ((rd_T41 l1_1 x6_3).f0)) || (!(((rd_T41 l0_1 x6_3).f1) == ((rd_T41 l1_1 x6_3).f1)) || (!(((rd_T41 l0_1 x6_3).f2) == ((rd_T41 l1_1 x6_3).f2)) || (!((((rd_T41 l0_1 x6_3).f3).toList) == (((rd_T41 l1_1 x6_3).f3).toList)))))) = true := c29
             clear c29
             obtain rfl := Option.some.inj H
             have hnb30 := NB349_350.out
             have hnc30 := NB350_349.out
             have hcz31_0 : wr.cell? ⟨gb349, 0, none⟩ = some (.slice A0_0 l0_0.length c0_0) := (blk_cell BK349.out 0).trans rfl
             have hcz31_1 : wr.cell? ⟨gb349, 1, none⟩ = some (.slice A0_1 l0_1.length c0_1) := (blk_cell BK349.out 1).trans rfl
             have hfz31_0 := blk_frozen BK349.out 0
             have hfz31_1 := blk_frozen BK349.out 1
             have p353 : 0 ≤ (x6_3 : Int) := of_decide_eq_true (by (with_reducible assumption))
             have q353 : x6_3 < (l0_1.length : Int) := of_decide_eq_true (by (with_reducible assumption))
             obtain ⟨ad353, e353, hx353_0, hx353_1, hx353_2, hx353_3⟩ := at_T41 HR0_1.out x6_3 p353 q353
             cases e353
             replace hx353_0 := (HB.out.cell (World.block_lt_of_cell? w _ hx353_0)).trans hx353_0
             replace hx353_1 := (HB.out.cell (World.block_lt_of_cell? w _ hx353_1)).trans hx353_1
             replace hx353_2 := (HB.out.cell (World.block_lt_of_cell? w _ hx353_2)).trans hx353_2
             replace hx353_3 := (HB.out.cell (World.block_lt_of_cell? w _ hx353_3)).trans hx353_3
             replace p353 := eq_true p353
             replace q353 := eq_true q353
             have hcz32_0 : wr.cell? ⟨gb350, 0, none⟩ = some (.slice A1_0 l1_0.length c1_0) := (blk_cell BK350.out 0).trans rfl
             have hcz32_1 : wr.cell? ⟨gb350, 1, none⟩ = some (.slice A1_1 l1_1.length c1_1) := (blk_cell BK350.out 1).trans rfl
             have hfz32_0 := blk_frozen BK350.out 0
             have hfz32_1 := blk_frozen BK350.out 1
             have p354 : 0 ≤ (x6_3 : Int) := of_decide_eq_true (by (with_reducible assumption))
             have q354 : x6_3 < (l1_1.length : Int) := of_decide_eq_true (by (with_reducible assumption))
             obtain ⟨ad354, e354, hx354_0, hx354_1, hx354_2, hx354_3⟩ := at_T41 HR1_1.out x6_3 p354 q354
             cases e354
             replace hx354_0 := (HB.out.cell (World.block_lt_of_cell? w _ hx354_0)).trans hx354_0
             replace hx354_1 := (HB.out.cell (World.block_lt_of_cell? w _ hx354_1)).trans hx354_1
             replace hx354_2 := (HB.out.cell (World.block_lt_of_cell? w _ hx354_2)).trans hx354_2
             replace hx354_3 := (HB.out.cell (World.block_lt_of_cell? w _ hx354_3)).trans hx354_3
             replace p354 := eq_true p354
             replace q354 := eq_true q354
             go_wp2
             repeat (go_quiet (fail); go_wp2)
             go_ret
             exact ⟨by rfl, by repeat (((with_reducible first | exact HB.out | apply pw_below_drewN)))⟩
            ·rw [if_neg c29] at H
             have c29b0 : (!(((rd_T41 l0_1 x6_3).f0) == ((rd_T41 l1_1 x6_3).f0)) || (!(((rd_T41 l0_1 x6_3).f1) == ((rd_T41 l1_1 x6_3).f1)) || (!(((rd_T41 l0_1 x6_3).f2) == ((rd_T41 l1_1 x6_3).f2)) || (!((((rd_T41 l0_1 x6_3).f3).toList) == (((rd_T41 l1_1 x6_3).f3).toList)))))) = false := by simpa using c29
             clear c29
             have H' := Aside0.mk H
             clear H
             have hnb33 := NB349_350.out
             have hnc33 := NB350_349.out
             have hcz34_0 : wr.cell? ⟨gb349, 0, none⟩ = some (.slice A0_0 l0_0.length c0_0) := (blk_cell BK349.out 0).trans rfl
             have hcz34_1 : wr.cell? ⟨gb349, 1, none⟩ = some (.slice A0_1 l0_1.length c0_1) := (blk_cell BK349.out 1).trans rfl
             have hfz34_0 := blk_frozen BK349.out 0
             have hfz34_1 := blk_frozen BK349.out 1
             have p353 : 0 ≤ (x6_3 : Int) := of_decide_eq_true (by (with_reducible assumption))
             have q353 : x6_3 < (l0_1.length : Int) := of_decide_eq_true (by (with_reducible assumption))
             obtain ⟨ad353, e353, hx353_0, hx353_1, hx353_2, hx353_3⟩ := at_T41 HR0_1.out x6_3 p353 q353
             cases e353
             replace hx353_0 := (HB.out.cell (World.block_lt_of_cell? w _ hx353_0)).trans hx353_0
             replace hx353_1 := (HB.out.cell (World.block_lt_of_cell? w _ hx353_1)).trans hx353_1
             replace hx353_2 := (HB.out.cell (World.block_lt_of_cell? w _ hx353_2)).trans hx353_2
             replace hx353_3 := (HB.out.cell (World.block_lt_of_cell? w _ hx353_3)).trans hx353_3
             replace p353 := eq_true p353
             replace q353 := eq_true q353
             have hcz35_0 : wr.cell? ⟨gb350, 0, none⟩ = some (.slice A1_0 l1_0.length c1_0) := (blk_cell BK350.out 0).trans rfl
             have hcz35_1 : wr.cell? ⟨gb350, 1, none⟩ = some (.slice A1_1 l1_1.length c1_1) := (blk_cell BK350.out 1).trans rfl
             have hfz35_0 := blk_frozen BK350.out 0
             have hfz35_1 := blk_frozen BK350.out 1
             have p354 : 0 ≤ (x6_3 : Int) := of_decide_eq_true (by (with_reducible assumption))
             have q354 : x6_3 < (l1_1.length : Int) := of_decide_eq_true (by (with_reducible assumption))
             obtain ⟨ad354, e354, hx354_0, hx354_1, hx354_2, hx354_3⟩ := at_T41 HR1_1.out x6_3 p354 q354
             cases e354
             replace hx354_0 := (HB.out.cell (World.block_lt_of_cell? w _ hx354_0)).trans hx354_0
             replace hx354_1 := (HB.out.cell (World.block_lt_of_cell? w _ hx354_1)).trans hx354_1
             replace hx354_2 := (HB.out.cell (World.block_lt_of_cell? w _ hx354_2)).trans hx354_2
             replace hx354_3 := (HB.out.cell (World.block_lt_of_cell? w _ hx354_3)).trans hx354_3
             replace p354 := eq_true p354
             replace q354 := eq_true q354
             go_wp2
             repeat (go_quiet (fail); go_wp2)
             go_roundg k3
             case measure => have := HJ2.out; have := HK2.out; have := HK3.out; omega
             case rel => exact ⟨(wrap64 (x6_3 + 1)), (by rfl), H', ⟨by have := HJ2.out; have := HK2.out; have := HK3.out; omega⟩, ⟨by (with_reducible repeat (refine blk_drewN ?_ _)); exact BK349.out⟩, ⟨by (with_reducible repeat (refine blk_drewN ?_ _)); exact BK350.out⟩, ⟨by repeat (((with_reducible first | exact HB.out | apply pw_below_drewN)))⟩⟩
           ·rw [if_neg c28] at H
            exact absurd H (by simp)
          ·rw [if_neg c27] at H
           exact absurd H (by simp)
         ·rw [if_neg c26] at H
          have c26b0 : decide (x6_3 < (l0_1.length : Int)) = false := decide_eq_false c26
          clear c26
          obtain rfl := Option.some.inj H
          have hnb36 := NB349_350.out
          have hnc36 := NB350_349.out
          have hcz37_0 : wr.cell? ⟨gb349, 0, none⟩ = some (.slice A0_0 l0_0.length c0_0) := (blk_cell BK349.out 0).trans rfl
          have hcz37_1 : wr.cell? ⟨gb349, 1, none⟩ = some (.slice A0_1 l0_1.length c0_1) := (blk_cell BK349.out 1).trans rfl
          have hfz37_0 := blk_frozen BK349.out 0
          have hfz37_1 := blk_frozen BK349.out 1
          go_wp2
          repeat (go_quiet (fail); try go_wp2)
          go_ret
          exact ⟨by rfl, by repeat ((with_reducible exact HB.out))⟩
      all_goals first
      | (have H' := Aside0.mk H
         clear H
         have hnb18 := NB349_350.out
         have hnc18 := NB350_349.out
         have hcz19_0 : wr.cell? ⟨gb349, 0, none⟩ = some (.slice A0_0 l0_0.length c0_0) := (blk_cell BK349.out 0).trans rfl
         have hcz19_1 : wr.cell? ⟨gb349, 1, none⟩ = some (.slice A0_1 l0_1.length c0_1) := (blk_cell BK349.out 1).trans rfl
         have hfz19_0 := blk_frozen BK349.out 0
         have hfz19_1 := blk_frozen BK349.out 1
         have pz1 : 0 ≤ (x5_2 : Int) := of_decide_eq_true (by (with_reducible assumption))
         have qz1 : x5_2 < (l0_0.length : Int) := of_decide_eq_true (by (with_reducible assumption))
         obtain ⟨adz1, ez1, hxz1⟩ := Kd.at_string HR0_0.out x5_2 pz1 qz1
         cases ez1
         replace hxz1 := (HB.out.cell (World.block_lt_of_cell? w _ hxz1)).trans hxz1
         replace pz1 := eq_true pz1
         replace qz1 := eq_true qz1
         have hczz1 : wr.cell? ⟨gb350, 0, none⟩ = some (.slice A1_0 l1_0.length c1_0) := (blk_cell BK350.out 0).trans rfl
         have hczz2 : wr.cell? ⟨gb350, 1, none⟩ = some (.slice A1_1 l1_1.length c1_1) := (blk_cell BK350.out 1).trans rfl
         have hfzz1 := blk_frozen BK350.out 0
         have hfzz2 := blk_frozen BK350.out 1
         have pz2 : 0 ≤ (x5_2 : Int) := of_decide_eq_true (by (with_reducible assumption))
         have qz2 : x5_2 < (l1_0.length : Int) := of_decide_eq_true (by (with_reducible assumption))
         obtain ⟨adz2, ez2, hxz2⟩ := Kd.at_string HR1_0.out x5_2 pz2 qz2
         cases ez2
         replace hxz2 := (HB.out.cell (World.block_lt_of_cell? w _ hxz2)).trans hxz2
         replace pz2 := eq_true pz2
         replace qz2 := eq_true qz2
         go_wp2
         repeat (go_quiet (fail); go_wp2)
         go_roundg k2
         case measure => have := HJ2.out; have := HK2.out; omega
         case rel => exact ⟨(wrap64 (x5_2 + 1)), (by rfl), H', ⟨by have := HJ2.out; have := HK2.out; omega⟩, ⟨by (with_reducible repeat (refine blk_drewN ?_ _)); exact BK349.out⟩, ⟨by (with_reducible repeat (refine blk_drewN ?_ _)); exact BK350.out⟩, ⟨by repeat (((with_reducible first | exact HB.out | apply pw_below_drewN)))⟩⟩)
      | (obtain rfl := Option.some.inj H
         have hnbz1 := NB349_350.out
         have hncz1 := NB350_349.out
         have hczz1 : wr.cell? ⟨gb349, 0, none⟩ = some (.slice A0_0 l0_0.length c0_0) := (blk_cell BK349.out 0).trans rfl
         have hczz2 : wr.cell? ⟨gb349, 1, none⟩ = some (.slice A0_1 l0_1.length c0_1) := (blk_cell BK349.out 1).trans rfl
         have hfzz1 := blk_frozen BK349.out 0
         have hfzz2 := blk_frozen BK349.out 1
         have pz1 : 0 ≤ (x5_2 : Int) := of_decide_eq_true (by (with_reducible assumption))
         have qz1 : x5_2 < (l0_0.length : Int) := of_decide_eq_true (by (with_reducible assumption))
         obtain ⟨adz1, ez1, hxz1⟩ := Kd.at_string HR0_0.out x5_2 pz1 qz1
         cases ez1
         replace hxz1 := (HB.out.cell (World.block_lt_of_cell? w _ hxz1)).trans hxz1
         replace pz1 := eq_true pz1
         replace qz1 := eq_true qz1
         have hczz3 : wr.cell? ⟨gb350, 0, none⟩ = some (.slice A1_0 l1_0.length c1_0) := (blk_cell BK350.out 0).trans rfl
         have hczz4 : wr.cell? ⟨gb350, 1, none⟩ = some (.slice A1_1 l1_1.length c1_1) := (blk_cell BK350.out 1).trans rfl
         have hfzz3 := blk_frozen BK350.out 0
         have hfzz4 := blk_frozen BK350.out 1
         have pz2 : 0 ≤ (x5_2 : Int) := of_decide_eq_true (by (with_reducible assumption))
         have qz2 : x5_2 < (l1_0.length : Int) := of_decide_eq_true (by (with_reducible assumption))
         obtain ⟨adz2, ez2, hxz2⟩ := Kd.at_string HR1_0.out x5_2 pz2 qz2
         cases ez2
         replace hxz2 := (HB.out.cell (World.block_lt_of_cell? w _ hxz2)).trans hxz2
         replace pz2 := eq_true pz2
         replace qz2 := eq_true qz2
         go_wp2
         repeat (go_quiet (fail); go_wp2)
         go_ret
         exact ⟨by rfl, by repeat (((with_reducible first | exact HB.out | apply pw_below_drewN)))⟩)
end Go.Proofs.YtlhhhlimjajnlaaGreat.Q
end
