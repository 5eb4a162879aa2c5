/- Parts of the proof of parserNests_holds, kept and merged by a program of mine (wip/tools/slim.py) out of my texts: Q12 -/
import Derived.Test.YtlhhhlimjajnlaaSPn4
import Derived.Test.YtlhhhlimjajnlaaSPn21
section
namespace Go.Proofs.Ytlhhhlimjajnlaa.X
end Go.Proofs.Ytlhhhlimjajnlaa.X
namespace Go.Proofs.Ytlhhhlimjajnlaa.Q
open Go.RowKit Go.Proofs.YtlhhhlimjajnlaaW.PrintWords Go.Proofs.YtlhhhlimjajnlaaW.PrintLast Go.Proofs.YtlhhhlimjajnlaaW.PrintMore
attribute [local go_sem] max2_int min2_int max_two min_two max_three min_three max_four min_four   
open Go.Proofs.Ytlhhhlimjajnlaa.X
set_option linter.unusedVariables false
set_option linter.unusedSimpArgs false
mutual
def topiarylaw13_ParserNests.j0 : Nat → Bool → Bool → List ByteArray → List (S33) → List ByteArray → List (S33) → Option (Bool)
  | 0, _, _, _, _, _, _ => none
  | k + 1, x3, x42, x206000, x206001, x214000, x214001 => if x42 = true then (some false) else (if 1 < (x214001.length : Int) then (if ((rd_T33 x214001 1).f0) = 3 then (topiarylaw13_ParserNests.j1 k x3 2 x206000 x206001 x214000 x214001) else (topiarylaw13_ParserNests.j1 k x3 1 x206000 x206001 x214000 x214001)) else (none))
def topiarylaw13_ParserNests.j1 : Nat → Bool → Int → List ByteArray → List (S33) → List ByteArray → List (S33) → Option (Bool)
  | 0, _, _, _, _, _, _ => none
  | k + 1, x3, x8, x206000, x206001, x214000, x214001 => if (x214001.length : Int) < (wrap64 ((x206001.length : Int) + x8)) then (topiarylaw13_ParserNests.j2 k x3 x8 true x206000 x206001 x214000 x214001) else (if 0 < (x214001.length : Int) then (if 0 ≤ ((rd_T33 x214001 0).f1) then (if ((rd_T33 x214001 0).f1) < (x214000.length : Int) then (topiarylaw13_ParserNests.j2 k x3 x8 ((rdOf ByteArray.empty x214000 ((rd_T33 x214001 0).f1)).toList != ([122, 122] : List UInt8)) x206000 x206001 x214000 x214001) else (none)) else (none)) else (none))
def topiarylaw13_ParserNests.j2 : Nat → Bool → Int → Bool → List ByteArray → List (S33) → List ByteArray → List (S33) → Option (Bool)
  | 0, _, _, _, _, _, _, _ => none
  | k + 1, x3, x8, x69, x206000, x206001, x214000, x214001 => if x69 = true then (some false) else (topiarylaw13_ParserNests.l0 k x3 x8 0 x206000 x206001 x214000 x214001)
def topiarylaw13_ParserNests.l0 : Nat → Bool → Int → Int → List ByteArray → List (S33) → List ByteArray → List (S33) → Option (Bool)
  | 0, _, _, _, _, _, _, _ => none
  | k + 1, x3, x8, x9, x206000, x206001, x214000, x214001 => if x9 < (x206001.length : Int) then (if 0 ≤ x9 then (if 0 ≤ (wrap64 (x9 + x8)) then (if (wrap64 (x9 + x8)) < (x214001.length : Int) then (if x9 > 0 then (topiarylaw13_ParserNests.j4 k x3 x8 x9 (wrap64 (((rd_T33 x206001 x9).f2) + x8)) x206000 x206001 x214000 x214001 ((rd_T33 x206001 x9).f0) ((rd_T33 x206001 x9).f1) ((rd_T33 x206001 x9).f2) ((rd_T33 x206001 x9).f3) ((rd_T33 x214001 (wrap64 (x9 + x8))).f0) ((rd_T33 x214001 (wrap64 (x9 + x8))).f1) ((rd_T33 x214001 (wrap64 (x9 + x8))).f2) ((rd_T33 x214001 (wrap64 (x9 + x8))).f3)) else (topiarylaw13_ParserNests.j4 k x3 x8 x9 0 x206000 x206001 x214000 x214001 ((rd_T33 x206001 x9).f0) ((rd_T33 x206001 x9).f1) ((rd_T33 x206001 x9).f2) ((rd_T33 x206001 x9).f3) ((rd_T33 x214001 (wrap64 (x9 + x8))).f0) ((rd_T33 x214001 (wrap64 (x9 + x8))).f1) ((rd_T33 x214001 (wrap64 (x9 + x8))).f2) ((rd_T33 x214001 (wrap64 (x9 + x8))).f3))) else (none)) else (none)) else (none)) else (some x3)
def topiarylaw13_ParserNests.j4 : Nat → Bool → Int → Int → Int → List ByteArray → List (S33) → List ByteArray → List (S33) → Int → Int → Int → ByteArray → Int → Int → Int → ByteArray → Option (Bool)
  | 0, _, _, _, _, _, _, _, _, _, _, _, _, _, _, _, _ => none
  | k + 1, x3, x8, x9, x12, x206000, x206001, x214000, x214001, x219000, x219001, x219002, x219003, x221000, x221001, x221002, x221003 => if x219000 = x221000 then (if x219003.toList = x221003.toList then (topiarylaw13_ParserNests.j5 k x3 x8 x9 (x221002 != x12) x206000 x206001 x214000 x214001 x219000 x219001 x219002 x219003 x221000 x221001 x221002 x221003) else (topiarylaw13_ParserNests.j5 k x3 x8 x9 true x206000 x206001 x214000 x214001 x219000 x219001 x219002 x219003 x221000 x221001 x221002 x221003)) else (topiarylaw13_ParserNests.j5 k x3 x8 x9 true x206000 x206001 x214000 x214001 x219000 x219001 x219002 x219003 x221000 x221001 x221002 x221003)
def topiarylaw13_ParserNests.j5 : Nat → Bool → Int → Int → Bool → List ByteArray → List (S33) → List ByteArray → List (S33) → Int → Int → Int → ByteArray → Int → Int → Int → ByteArray → Option (Bool)
  | 0, _, _, _, _, _, _, _, _, _, _, _, _, _, _, _, _ => none
  | k + 1, x3, x8, x9, x112, x206000, x206001, x214000, x214001, x219000, x219001, x219002, x219003, x221000, x221001, x221002, x221003 => if x112 = true then (some false) else (if x219000 = 3 then (topiarylaw13_ParserNests.l0 k x3 x8 (wrap64 (x9 + 1)) x206000 x206001 x214000 x214001) else (if 0 ≤ x219001 then (if x219001 < (x206000.length : Int) then (if 0 ≤ x221001 then (if x221001 < (x214000.length : Int) then (if (rdOf ByteArray.empty x206000 x219001).toList = (rdOf ByteArray.empty x214000 x221001).toList then (topiarylaw13_ParserNests.l0 k x3 x8 (wrap64 (x9 + 1)) x206000 x206001 x214000 x214001) else (some false)) else (none)) else (none)) else (none)) else (none)))
end
def topiarylaw13_ParserNests.f (k : Nat) (a0 : ByteArray) : Option (Bool) := (topiarylaw13_awake.f).bind fun t196 => ((topiarylaw13_short.f a0 150).bind fun t197 => ((parser_Parse.f t197).bind fun bt198 => (if bt198.2.2 = 0 then (if 4 + t197.size ≤ 9223372036854775807 then (if ((⟨#[60, 122, 122, 62]⟩ : ByteArray) ++ t197).size + 5 ≤ 9223372036854775807 then ((parser_Parse.f (((⟨#[60, 122, 122, 62]⟩ : ByteArray) ++ t197) ++ (⟨#[60, 47, 122, 122, 62]⟩ : ByteArray))).bind fun bt206 => (if bt206.2.2 = 0 then (topiarylaw13_ParserNests.j0 k t196 (decide ((bt206.2.1.length : Int) < (wrap64 ((bt198.2.1.length : Int) + 1)))) bt198.1 bt198.2.1 bt206.1 bt206.2.1) else (topiarylaw13_ParserNests.j0 k t196 true bt198.1 bt198.2.1 bt206.1 bt206.2.1))) else (none)) else (none)) else (some t196))))
theorem topiarylaw13_ParserNests.mono_l : ∀ k, (∀ y0 y1 y2 y3 y4 y5, LeO (topiarylaw13_ParserNests.j0 k y0 y1 y2 y3 y4 y5) (topiarylaw13_ParserNests.j0 (k + 1) y0 y1 y2 y3 y4 y5)) ∧ (∀ y0 y1 y2 y3 y4 y5, LeO (topiarylaw13_ParserNests.j1 k y0 y1 y2 y3 y4 y5) (topiarylaw13_ParserNests.j1 (k + 1) y0 y1 y2 y3 y4 y5)) ∧ (∀ y0 y1 y2 y3 y4 y5 y6, LeO (topiarylaw13_ParserNests.j2 k y0 y1 y2 y3 y4 y5 y6) (topiarylaw13_ParserNests.j2 (k + 1) y0 y1 y2 y3 y4 y5 y6)) ∧ (∀ y0 y1 y2 y3 y4 y5 y6, LeO (topiarylaw13_ParserNests.l0 k y0 y1 y2 y3 y4 y5 y6) (topiarylaw13_ParserNests.l0 (k + 1) y0 y1 y2 y3 y4 y5 y6)) ∧ (∀ y0 y1 y2 y3 y4 y5 y6 y7 y8 y9 y10 y11 y12 y13 y14 y15, LeO (topiarylaw13_ParserNests.j4 k y0 y1 y2 y3 y4 y5 y6 y7 y8 y9 y10 y11 y12 y13 y14 y15) (topiarylaw13_ParserNests.j4 (k + 1) y0 y1 y2 y3 y4 y5 y6 y7 y8 y9 y10 y11 y12 y13 y14 y15)) ∧ (∀ y0 y1 y2 y3 y4 y5 y6 y7 y8 y9 y10 y11 y12 y13 y14 y15, LeO (topiarylaw13_ParserNests.j5 k y0 y1 y2 y3 y4 y5 y6 y7 y8 y9 y10 y11 y12 y13 y14 y15) (topiarylaw13_ParserNests.j5 (k + 1) y0 y1 y2 y3 y4 y5 y6 y7 y8 y9 y10 y11 y12 y13 y14 y15))
  | 0 => ⟨fun _ _ _ _ _ _ r h => by simp [topiarylaw13_ParserNests.j0] at h, fun _ _ _ _ _ _ r h => by simp [topiarylaw13_ParserNests.j1] at h, fun _ _ _ _ _ _ _ r h => by simp [topiarylaw13_ParserNests.j2] at h, fun _ _ _ _ _ _ _ r h => by simp [topiarylaw13_ParserNests.l0] at h, fun _ _ _ _ _ _ _ _ _ _ _ _ _ _ _ _ r h => by simp [topiarylaw13_ParserNests.j4] at h, fun _ _ _ _ _ _ _ _ _ _ _ _ _ _ _ _ r h => by simp [topiarylaw13_ParserNests.j5] at h⟩
  | k + 1 => by
    obtain ⟨ih0, ih1, ih2, ih3, ih4, ih5⟩ := topiarylaw13_ParserNests.mono_l k
    refine ⟨?_, ?_, ?_, ?_, ?_, ?_⟩
    · intro y0 y1 y2 y3 y4 y5
      unfold topiarylaw13_ParserNests.j0
      repeat' first
      | (with_reducible exact ih0 _ _ _ _ _ _)
      | (with_reducible exact ih1 _ _ _ _ _ _)
      | (with_reducible exact ih2 _ _ _ _ _ _ _)
      | (with_reducible exact ih3 _ _ _ _ _ _ _)
      | (with_reducible exact ih4 _ _ _ _ _ _ _ _ _ _ _ _ _ _ _ _)
      | (with_reducible exact ih5 _ _ _ _ _ _ _ _ _ _ _ _ _ _ _ _)
      | (with_reducible exact LeO.refl _)
      | (with_reducible exact LeO.none _)
      | (with_reducible refine LeO.ite ?_ ?_)
      | (with_reducible refine LeO.bind ?_ (fun _ => ?_))
      | exact ih0 _ _ _ _ _ _
      | exact ih1 _ _ _ _ _ _
      | exact ih2 _ _ _ _ _ _ _
      | exact ih3 _ _ _ _ _ _ _
      | exact ih4 _ _ _ _ _ _ _ _ _ _ _ _ _ _ _ _
      | exact ih5 _ _ _ _ _ _ _ _ _ _ _ _ _ _ _ _
      | exact LeO.none _
      | refine LeO.ite ?_ ?_
      | refine LeO.bind ?_ (fun _ => ?_)
    · intro y0 y1 y2 y3 y4 y5
      unfold topiarylaw13_ParserNests.j1
      repeat' first
      | (with_reducible exact ih0 _ _ _ _ _ _)
      | (with_reducible exact ih1 _ _ _ _ _ _)
      | (with_reducible exact ih2 _ _ _ _ _ _ _)
      | (with_reducible exact ih3 _ _ _ _ _ _ _)
      | (with_reducible exact ih4 _ _ _ _ _ _ _ _ _ _ _ _ _ _ _ _)
      | (with_reducible exact ih5 _ _ _ _ _ _ _ _ _ _ _ _ _ _ _ _)
      | (with_reducible exact LeO.refl _)
      | (with_reducible exact LeO.none _)
      | (with_reducible refine LeO.ite ?_ ?_)
      | (with_reducible refine LeO.bind ?_ (fun _ => ?_))
      | exact ih0 _ _ _ _ _ _
      | exact ih1 _ _ _ _ _ _
      | exact ih2 _ _ _ _ _ _ _
      | exact ih3 _ _ _ _ _ _ _
      | exact ih4 _ _ _ _ _ _ _ _ _ _ _ _ _ _ _ _
      | exact ih5 _ _ _ _ _ _ _ _ _ _ _ _ _ _ _ _
      | exact LeO.none _
      | refine LeO.ite ?_ ?_
      | refine LeO.bind ?_ (fun _ => ?_)
    · intro y0 y1 y2 y3 y4 y5 y6
      unfold topiarylaw13_ParserNests.j2
      repeat' first
      | (with_reducible exact ih0 _ _ _ _ _ _)
      | (with_reducible exact ih1 _ _ _ _ _ _)
      | (with_reducible exact ih2 _ _ _ _ _ _ _)
      | (with_reducible exact ih3 _ _ _ _ _ _ _)
      | (with_reducible exact ih4 _ _ _ _ _ _ _ _ _ _ _ _ _ _ _ _)
      | (with_reducible exact ih5 _ _ _ _ _ _ _ _ _ _ _ _ _ _ _ _)
      | (with_reducible exact LeO.refl _)
      | (with_reducible exact LeO.none _)
      | (with_reducible refine LeO.ite ?_ ?_)
      | (with_reducible refine LeO.bind ?_ (fun _ => ?_))
      | exact ih0 _ _ _ _ _ _
      | exact ih1 _ _ _ _ _ _
      | exact ih2 _ _ _ _ _ _ _
      | exact ih3 _ _ _ _ _ _ _
      | exact ih4 _ _ _ _ _ _ _ _ _ _ _ _ _ _ _ _
      | exact ih5 _ _ _ _ _ _ _ _ _ _ _ _ _ _ _ _
      | exact LeO.none _
      | refine LeO.ite ?_ ?_
      | refine LeO.bind ?_ (fun _ => ?_)
    · intro y0 y1 y2 y3 y4 y5 y6
      unfold topiarylaw13_ParserNests.l0
      repeat' first
      | (with_reducible exact ih0 _ _ _ _ _ _)
      | (with_reducible exact ih1 _ _ _ _ _ _)
      | (with_reducible exact ih2 _ _ _ _ _ _ _)
      | (with_reducible exact ih3 _ _ _ _ _ _ _)
      | (with_reducible exact ih4 _ _ _ _ _ _ _ _ _ _ _ _ _ _ _ _)
      | (with_reducible exact ih5 _ _ _ _ _ _ _ _ _ _ _ _ _ _ _ _)
      | (with_reducible exact LeO.refl _)
      | (with_reducible exact LeO.none _)
      | (with_reducible refine LeO.ite ?_ ?_)
      | (with_reducible refine LeO.bind ?_ (fun _ => ?_))
      | exact ih0 _ _ _ _ _ _
      | exact ih1 _ _ _ _ _ _
      | exact ih2 _ _ _ _ _ _ _
      | exact ih3 _ _ _ _ _ _ _
      | exact ih4 _ _ _ _ _ _ _ _ _ _ _ _ _ _ _ _
      | exact ih5 _ _ _ _ _ _ _ _ _ _ _ _ _ _ _ _
      | exact LeO.none _
      | refine LeO.ite ?_ ?_
      | refine LeO.bind ?_ (fun _ => ?_)
    · intro y0 y1 y2 y3 y4 y5 y6 y7 y8 y9 y10 y11 y12 y13 y14 y15
      unfold topiarylaw13_ParserNests.j4
      repeat' first
      | (with_reducible exact ih0 _ _ _ _ _ _)
      | (with_reducible exact ih1 _ _ _ _ _ _)
      | (with_reducible exact ih2 _ _ _ _ _ _ _)
      | (with_reducible exact ih3 _ _ _ _ _ _ _)
      | (with_reducible exact ih4 _ _ _ _ _ _ _ _ _ _ _ _ _ _ _ _)
      | (with_reducible exact ih5 _ _ _ _ _ _ _ _ _ _ _ _ _ _ _ _)
      | (with_reducible exact LeO.refl _)
      | (with_reducible exact LeO.none _)
      | (with_reducible refine LeO.ite ?_ ?_)
      | (with_reducible refine LeO.bind ?_ (fun _ => ?_))
      | exact ih0 _ _ _ _ _ _
      | exact ih1 _ _ _ _ _ _
      | exact ih2 _ _ _ _ _ _ _
      | exact ih3 _ _ _ _ _ _ _
      | exact ih4 _ _ _ _ _ _ _ _ _ _ _ _ _ _ _ _
      | exact ih5 _ _ _ _ _ _ _ _ _ _ _ _ _ _ _ _
      | exact LeO.none _
      | refine LeO.ite ?_ ?_
      | refine LeO.bind ?_ (fun _ => ?_)
    · intro y0 y1 y2 y3 y4 y5 y6 y7 y8 y9 y10 y11 y12 y13 y14 y15
      unfold topiarylaw13_ParserNests.j5
      repeat' first
      | (with_reducible exact ih0 _ _ _ _ _ _)
      | (with_reducible exact ih1 _ _ _ _ _ _)
      | (with_reducible exact ih2 _ _ _ _ _ _ _)
      | (with_reducible exact ih3 _ _ _ _ _ _ _)
      | (with_reducible exact ih4 _ _ _ _ _ _ _ _ _ _ _ _ _ _ _ _)
      | (with_reducible exact ih5 _ _ _ _ _ _ _ _ _ _ _ _ _ _ _ _)
      | (with_reducible exact LeO.refl _)
      | (with_reducible exact LeO.none _)
      | (with_reducible refine LeO.ite ?_ ?_)
      | (with_reducible refine LeO.bind ?_ (fun _ => ?_))
      | exact ih0 _ _ _ _ _ _
      | exact ih1 _ _ _ _ _ _
      | exact ih2 _ _ _ _ _ _ _
      | exact ih3 _ _ _ _ _ _ _
      | exact ih4 _ _ _ _ _ _ _ _ _ _ _ _ _ _ _ _
      | exact ih5 _ _ _ _ _ _ _ _ _ _ _ _ _ _ _ _
      | exact LeO.none _
      | refine LeO.ite ?_ ?_
      | refine LeO.bind ?_ (fun _ => ?_)
theorem topiarylaw13_ParserNests.mono : ∀ a0 k, LeO (topiarylaw13_ParserNests.f k a0) (topiarylaw13_ParserNests.f (k + 1) a0) := by
  intro a0 k
  obtain ⟨ih0, ih1, ih2, ih3, ih4, ih5⟩ := topiarylaw13_ParserNests.mono_l k
  unfold topiarylaw13_ParserNests.f
  repeat' first
      | (with_reducible exact ih0 _ _ _ _ _ _)
      | (with_reducible exact ih1 _ _ _ _ _ _)
      | (with_reducible exact ih2 _ _ _ _ _ _ _)
      | (with_reducible exact ih3 _ _ _ _ _ _ _)
      | (with_reducible exact ih4 _ _ _ _ _ _ _ _ _ _ _ _ _ _ _ _)
      | (with_reducible exact ih5 _ _ _ _ _ _ _ _ _ _ _ _ _ _ _ _)
      | (with_reducible exact LeO.refl _)
      | (with_reducible exact LeO.none _)
      | (with_reducible refine LeO.ite ?_ ?_)
      | (with_reducible refine LeO.bind ?_ (fun _ => ?_))
      | exact ih0 _ _ _ _ _ _
      | exact ih1 _ _ _ _ _ _
      | exact ih2 _ _ _ _ _ _ _
      | exact ih3 _ _ _ _ _ _ _
      | exact ih4 _ _ _ _ _ _ _ _ _ _ _ _ _ _ _ _
      | exact ih5 _ _ _ _ _ _ _ _ _ _ _ _ _ _ _ _
      | exact LeO.none _
      | refine LeO.ite ?_ ?_
      | refine LeO.bind ?_ (fun _ => ?_)
set_option maxHeartbeats 8000000 in
set_option maxRecDepth 100000 in
theorem topiarylaw13_ParserNests.calls (k : Nat) (a0 : ByteArray) (r : Bool) (w : World) (hG : G w) (h : topiarylaw13_ParserNests.f k a0 = some r) :
    Calls Try.prog 5 #[.string a0] w fun e w' => e = .returned (.bool r) ∧ Below w.heap.size w w' := by
  have hu26 := Try.underlying26
  have hu33 := Try.underlying33
  have HB := Aside0.mk (Below.refl w.heap.size w)
  have H : ((topiarylaw13_awake.f).bind fun t196 => ((topiarylaw13_short.f a0 150).bind fun t197 => ((parser_Parse.f t197).bind fun bt198 => (if bt198.2.2 = 0 then (if 4 + t197.size ≤ 9223372036854775807 then (if ((⟨#[60, 122, 122, 62]⟩ : ByteArray) ++ t197).size + 5 ≤ 9223372036854775807 then ((parser_Parse.f (((⟨#[60, 122, 122, 62]⟩ : ByteArray) ++ t197) ++ (⟨#[60, 47, 122, 122, 62]⟩ : ByteArray))).bind fun bt206 => (if bt206.2.2 = 0 then (topiarylaw13_ParserNests.j0 k t196 (decide ((bt206.2.1.length : Int) < (wrap64 ((bt198.2.1.length : Int) + 1)))) bt198.1 bt198.2.1 bt206.1 bt206.2.1) else (topiarylaw13_ParserNests.j0 k t196 true bt198.1 bt198.2.1 bt206.1 bt206.2.1))) else (none)) else (none)) else (some t196))))) = some r := h
  clear h
  replace H := Option.bind_eq_some_iff.mp H
  obtain ⟨t196, A20, H⟩ := H
  replace H : ((topiarylaw13_short.f a0 150).bind fun t197 => ((parser_Parse.f t197).bind fun bt198 => (if bt198.2.2 = 0 then (if 4 + t197.size ≤ 9223372036854775807 then (if ((⟨#[60, 122, 122, 62]⟩ : ByteArray) ++ t197).size + 5 ≤ 9223372036854775807 then ((parser_Parse.f (((⟨#[60, 122, 122, 62]⟩ : ByteArray) ++ t197) ++ (⟨#[60, 47, 122, 122, 62]⟩ : ByteArray))).bind fun bt206 => (if bt206.2.2 = 0 then (topiarylaw13_ParserNests.j0 k t196 (decide ((bt206.2.1.length : Int) < (wrap64 ((bt198.2.1.length : Int) + 1)))) bt198.1 bt198.2.1 bt206.1 bt206.2.1) else (topiarylaw13_ParserNests.j0 k t196 true bt198.1 bt198.2.1 bt206.1 bt206.2.1))) else (none)) else (none)) else (some t196)))) = some r := H
  have A2 := Aside0.mk A20
  clear A20
  replace H := Option.bind_eq_some_iff.mp H
  obtain ⟨t197, A30, H⟩ := H
  replace H : ((parser_Parse.f t197).bind fun bt198 => (if bt198.2.2 = 0 then (if 4 + t197.size ≤ 9223372036854775807 then (if ((⟨#[60, 122, 122, 62]⟩ : ByteArray) ++ t197).size + 5 ≤ 9223372036854775807 then ((parser_Parse.f (((⟨#[60, 122, 122, 62]⟩ : ByteArray) ++ t197) ++ (⟨#[60, 47, 122, 122, 62]⟩ : ByteArray))).bind fun bt206 => (if bt206.2.2 = 0 then (topiarylaw13_ParserNests.j0 k t196 (decide ((bt206.2.1.length : Int) < (wrap64 ((bt198.2.1.length : Int) + 1)))) bt198.1 bt198.2.1 bt206.1 bt206.2.1) else (topiarylaw13_ParserNests.j0 k t196 true bt198.1 bt198.2.1 bt206.1 bt206.2.1))) else (none)) else (none)) else (some t196))) = some r := H
  have A3 := Aside0.mk A30
  clear A30
  replace H := Option.bind_eq_some_iff.mp H
  obtain ⟨⟨t198, t201, t204⟩, A40, H⟩ := H
  replace H : (if t204 = 0 then (if 4 + t197.size ≤ 9223372036854775807 then (if ((⟨#[60, 122, 122, 62]⟩ : ByteArray) ++ t197).size + 5 ≤ 9223372036854775807 then ((parser_Parse.f (((⟨#[60, 122, 122, 62]⟩ : ByteArray) ++ t197) ++ (⟨#[60, 47, 122, 122, 62]⟩ : ByteArray))).bind fun bt206 => (if bt206.2.2 = 0 then (topiarylaw13_ParserNests.j0 k t196 (decide ((bt206.2.1.length : Int) < (wrap64 ((t201.length : Int) + 1)))) t198 t201 bt206.1 bt206.2.1) else (topiarylaw13_ParserNests.j0 k t196 true t198 t201 bt206.1 bt206.2.1))) else (none)) else (none)) else (some t196)) = some r := H
  have A4 := Aside0.mk A40
  clear A40
  by_cases c5 : t204 = 0
  · rw [if_pos c5] at H
    have c5b0 : (t204 == 0) = true := beq_iff_eq.mpr c5
    have c5b1 : (t204 != 0) = false := bne_eq_false_iff_eq.mpr c5
    clear c5
    by_cases c6 : 4 + t197.size ≤ 9223372036854775807
    · rw [if_pos c6] at H
      have c6b0 := eq_true c6
      have c6b1 : decide (4 + t197.size ≤ 9223372036854775807) = true := decide_eq_true c6
      try have c6b2 : (9223372036854775807 < 4 + t197.size) = False := eq_false (Nat.not_lt.2 c6)
      by_cases c7 : ((⟨#[60, 122, 122, 62]⟩ : ByteArray) ++ t197).size + 5 ≤ 9223372036854775807
      · rw [if_pos c7] at H
        have c7b0 := eq_true c7
        have c7b1 : decide (((⟨#[60, 122, 122, 62]⟩ : ByteArray) ++ t197).size + 5 ≤ 9223372036854775807) = true := decide_eq_true c7
        try have c7b2 : (9223372036854775807 < ((⟨#[60, 122, 122, 62]⟩ : ByteArray) ++ t197).size + 5) = False := eq_false (Nat.not_lt.2 c7)
        have c7z : 4 + t197.size + 5 ≤ 9223372036854775807 := by have z_ := c7; rw [ByteArray.size_append] at z_; exact z_
        have c7zb0 := eq_true c7z
        have c7zb1 : decide (4 + t197.size + 5 ≤ 9223372036854775807) = true := decide_eq_true c7z
        have c7zb2 : (9223372036854775807 < 4 + t197.size + 5) = False := eq_false (Nat.not_lt.2 c7z)
        replace H := Option.bind_eq_some_iff.mp H
        obtain ⟨⟨t206, t209, t212⟩, A80, H⟩ := H
        replace H : (if t212 = 0 then (topiarylaw13_ParserNests.j0 k t196 (decide ((t209.length : Int) < (wrap64 ((t201.length : Int) + 1)))) t198 t201 t206 t209) else (topiarylaw13_ParserNests.j0 k t196 true t198 t201 t206 t209)) = some r := H
        have A8 := Aside0.mk A80
        clear A80
        have HC9 := Aside0.mk H
        clear H
        go_enter Try.func5, Try.ntmps5
        go_upto_region 7 with (first | (go_at_call 7; (with_reducible refine (topiarylaw13_awake.calls  t196 _ (by first | exact hG | exact G.below hG (by repeat (first | (with_reducible first | exact HB.out | apply below_alloc | apply pw_below_drewN | apply below_drew1) | exact HB.out))) A2.out).mono ?_); rintro e w10 ⟨rfl, hb⟩; have n0_ := Aside0.mk (below_step (by repeat (first | (with_reducible first | exact HB.out | apply below_alloc | apply pw_below_drewN | apply below_drew1) | exact HB.out)) hb); clear HB; have HB := n0_; clear n0_; (try clear hb); (try clear hb2); (try clear hk); (try clear hi)) | (go_at_call 9; (with_reducible refine (topiarylaw13_short.calls a0 150 t197 _ A3.out).mono ?_); rintro e w' ⟨rfl, ⟨nd, rfl⟩⟩; (try first | exact ⟨rfl, _, World.drewN_drewN _ _ _⟩ | exact ⟨rfl, _, Eq.trans (World.drewN_drewN _ _ _) (congrArg (World.drewN _) (Nat.add_assoc _ _ _))⟩)) | (go_at_call 8; (with_reducible refine (parser_Parse.calls t197 t198 t201 t204 _ (by first | exact hG | exact G.below hG (by repeat (first | (with_reducible first | exact HB.out | apply below_alloc | apply pw_below_drewN | apply below_drew1) | exact HB.out))) A4.out).mono ?_); rintro e w11 ⟨v199, v202, rfl, ho0, ho1, hb⟩; have n0_ := Aside0.mk (Kd.R_lower ho0 (below_size (by repeat (first | (with_reducible first | exact HB.out | apply below_alloc | apply pw_below_drewN | apply below_drew1) | exact HB.out)))); have n1_ := Aside0.mk (Kd.R_lower ho1 (below_size (by repeat (first | (with_reducible first | exact HB.out | apply below_alloc | apply pw_below_drewN | apply below_drew1) | exact HB.out)))); have n2_ := Aside0.mk (below_step (by repeat (first | (with_reducible first | exact HB.out | apply below_alloc | apply pw_below_drewN | apply below_drew1) | exact HB.out)) hb); clear HB; have HO200 := n0_; have HO203 := n1_; have HB := n2_; clear n0_ n1_ n2_; (try clear hb); (try clear hb2); (try clear hk); (try clear hi); (try clear ho0); (try clear ho1)) | ((with_reducible refine gate_dst (N := 4) rfl ?_); (try (refine gate_guard (by rfl) ?_; dsimp only)); refine box_event ?hg (N := 4) ?hd (cs := #[.slice none 0 0, .slice none 0 0]) (t := 26) ?hr ?_; (case hd => rfl); (case hg => rfl); (case hr => first | (go_simp; done) | (go_simp; rfl)); intro gb205 hg w12 hbox hb; have n0_ := Aside0.mk (Kd.R_below (by (with_reducible repeat (first | apply Kd.R_alloc | apply Kd.R_drewN | apply Kd.R_drew)); exact HO200.out) hb); have n1_ := Aside0.mk (Kd.R_below (by (with_reducible repeat (first | apply Kd.R_alloc | apply Kd.R_drewN | apply Kd.R_drew)); exact HO203.out) hb); have n2_ := Aside0.mk (below_step (by repeat (first | (with_reducible first | exact HB.out | apply below_alloc | apply pw_below_drewN | apply below_drew1) | exact HB.out)) hb); have n3_ := Aside0.mk (hbox); have n4_ := Aside0.mk ((by rw [hg]; exact (below_size (by repeat (first | (with_reducible first | exact HB.out | apply below_alloc | apply pw_below_drewN | apply below_drew1) | exact HB.out))) : w.heap.size ≤ gb205)); have n5_ := Aside0.mk ((by rw [hg]; exact (below_size (by repeat (first | (with_reducible first | exact HB.out | apply below_alloc | apply pw_below_drewN | apply below_drew1) | exact HB.out))) : w.heap.size ≤ gb205)); clear HO200; clear HO203; clear HB; have HO200 := n0_; have HO203 := n1_; have HB := n2_; have BK205 := n3_; have GW205 := n4_; have GE205 := n5_; clear n0_ n1_ n2_ n3_ n4_ n5_; clear hb hbox hg; obtain ⟨Ao13, co13, eo13⟩ := Kd.R_slice HO200.out; subst eo13; have hcz14_0 : w12.cell? ⟨gb205, 0, none⟩ = some (.slice none 0 0) := (blk_cell BK205.out 0).trans rfl; have hcz14_1 : w12.cell? ⟨gb205, 1, none⟩ = some (.slice none 0 0) := (blk_cell BK205.out 1).trans rfl; have hfz14_0 := blk_frozen BK205.out 0; have hfz14_1 := blk_frozen BK205.out 1; obtain ⟨Ao15, co15, eo15⟩ := Kd.R_slice HO203.out; subst eo15) | (go_at_call 8; (with_reducible refine (parser_Parse.calls (((⟨#[60, 122, 122, 62]⟩ : ByteArray) ++ t197) ++ (⟨#[60, 47, 122, 122, 62]⟩ : ByteArray)) t206 t209 t212 _ (by first | exact hG | exact G.below hG (by repeat (first | (with_reducible first | exact HB.out | apply below_alloc | apply pw_below_drewN | apply below_drew1 | refine below_set ?_ GE205.out) | exact HB.out))) A8.out).mono ?_); rintro e w16 ⟨v207, v210, rfl, ho0, ho1, hb⟩; have n0_ := Aside0.mk (Kd.R_elder' (by (with_reducible repeat (first | apply Kd.R_alloc | apply Kd.R_drewN | apply Kd.R_drew)); exact (Kd.R_mono (Kd.R_far (p := ⟨gb205, 1, none⟩) (Kd.R_far (p := ⟨gb205, 0, none⟩) (Kd.R_types HO200.out BK205.out (by decide)) (fun _ hk => hk.2) (.slice Ao13 t198.length co13)) (fun _ hk => hk.2) (.slice Ao15 t201.length co15)) (fun _ h_ => h_.1))) (Kd.R_base ho0) hb); have n1_ := Aside0.mk (Kd.R_elder' (by (with_reducible repeat (first | apply Kd.R_alloc | apply Kd.R_drewN | apply Kd.R_drew)); exact (Kd.R_mono (Kd.R_far (p := ⟨gb205, 1, none⟩) (Kd.R_far (p := ⟨gb205, 0, none⟩) (Kd.R_types HO203.out BK205.out (by decide)) (fun _ hk => hk.2) (.slice Ao13 t198.length co13)) (fun _ hk => hk.2) (.slice Ao15 t201.length co15)) (fun _ h_ => h_.1))) (Kd.R_base ho1) hb); have n2_ := Aside0.mk (Kd.R_lower (Kd.R_new' ho0 (Kd.R_lt (by (with_reducible repeat (first | apply Kd.R_alloc | apply Kd.R_drewN | apply Kd.R_drew)); exact (Kd.R_mono (Kd.R_far (p := ⟨gb205, 1, none⟩) (Kd.R_far (p := ⟨gb205, 0, none⟩) (Kd.R_types HO200.out BK205.out (by decide)) (fun _ hk => hk.2) (.slice Ao13 t198.length co13)) (fun _ hk => hk.2) (.slice Ao15 t201.length co15)) (fun _ h_ => h_.1))))) (below_size (by repeat (first | (with_reducible first | exact HB.out | apply below_alloc | apply pw_below_drewN | apply below_drew1 | refine below_set ?_ GE205.out) | exact HB.out)))); have n3_ := Aside0.mk (Kd.R_lower (Kd.R_new' ho1 (Kd.R_lt (by (with_reducible repeat (first | apply Kd.R_alloc | apply Kd.R_drewN | apply Kd.R_drew)); exact (Kd.R_mono (Kd.R_far (p := ⟨gb205, 1, none⟩) (Kd.R_far (p := ⟨gb205, 0, none⟩) (Kd.R_types HO203.out BK205.out (by decide)) (fun _ hk => hk.2) (.slice Ao13 t198.length co13)) (fun _ hk => hk.2) (.slice Ao15 t201.length co15)) (fun _ h_ => h_.1))))) (below_size (by repeat (first | (with_reducible first | exact HB.out | apply below_alloc | apply pw_below_drewN | apply below_drew1 | refine below_set ?_ GE205.out) | exact HB.out)))); have n4_ := Aside0.mk (blk_below (g := gb205) (o := .cells #[.slice Ao13 t198.length co13, .slice Ao15 t201.length co15] 26 (0, 0)) (by (with_reducible repeat (first | refine blk_drewN ?_ _ | refine blk_drew ?_ | refine blk_alloc ?_ _)); refine blk_put (cs := #[.slice Ao13 t198.length co13, .slice none 0 0]) ?_ 1 _ rfl; (with_reducible repeat (first | refine blk_drewN ?_ _ | refine blk_drew ?_ | refine blk_alloc ?_ _)); refine blk_put (cs := #[.slice none 0 0, .slice none 0 0]) ?_ 0 _ rfl; (with_reducible repeat (first | refine blk_drewN ?_ _ | refine blk_drew ?_ | refine blk_alloc ?_ _)); exact BK205.out) hb); have n5_ := Aside0.mk (below_step (by repeat (first | (with_reducible first | exact HB.out | apply below_alloc | apply pw_below_drewN | apply below_drew1 | refine below_set ?_ GE205.out) | exact HB.out)) hb); clear HO200; clear HO203; clear BK205; clear HB; have HO200 := n0_; have HO203 := n1_; have HO208 := n2_; have HO211 := n3_; have BK205 := n4_; have HB := n5_; clear n0_ n1_ n2_ n3_ n4_ n5_; (try clear hb); (try clear hb2); (try clear hk); (try clear hi); (try clear ho0); (try clear ho1)) | ((with_reducible refine gate_dst (N := 6) rfl ?_); (try (refine gate_guard (by rfl) ?_; dsimp only)); refine box_event ?hg (N := 6) ?hd (cs := #[.slice none 0 0, .slice none 0 0]) (t := 26) ?hr ?_; (case hd => rfl); (case hg => rfl); (case hr => first | (go_simp; done) | (go_simp; rfl)); intro gb213 hg w17 hbox hb; have n0_ := Aside0.mk (Kd.R_below (by (with_reducible repeat (first | apply Kd.R_alloc | apply Kd.R_drewN | apply Kd.R_drew)); exact HO200.out) hb); have n1_ := Aside0.mk (Kd.R_below (by (with_reducible repeat (first | apply Kd.R_alloc | apply Kd.R_drewN | apply Kd.R_drew)); exact HO203.out) hb); have n2_ := Aside0.mk (Kd.R_below (by (with_reducible repeat (first | apply Kd.R_alloc | apply Kd.R_drewN | apply Kd.R_drew)); exact HO208.out) hb); have n3_ := Aside0.mk (Kd.R_below (by (with_reducible repeat (first | apply Kd.R_alloc | apply Kd.R_drewN | apply Kd.R_drew)); exact HO211.out) hb); have n4_ := Aside0.mk (blk_below (g := gb205) (o := .cells #[.slice Ao13 t198.length co13, .slice Ao15 t201.length co15] 26 (0, 0)) (by (with_reducible repeat (first | refine blk_drewN ?_ _ | refine blk_drew ?_ | refine blk_alloc ?_ _)); exact BK205.out) hb); have n5_ := Aside0.mk (below_step (by repeat (first | (with_reducible first | exact HB.out | apply below_alloc | apply pw_below_drewN | apply below_drew1 | refine below_set ?_ GE205.out) | exact HB.out)) hb); have n6_ := Aside0.mk (hbox); have n7_ := Aside0.mk ((by rw [hg]; exact (below_size (by repeat (first | (with_reducible first | exact HB.out | apply below_alloc | apply pw_below_drewN | apply below_drew1 | refine below_set ?_ GE205.out) | exact HB.out))) : w.heap.size ≤ gb213)); have n8_ := Aside0.mk ((by rw [hg]; exact (below_size (by repeat (first | (with_reducible first | exact HB.out | apply below_alloc | apply pw_below_drewN | apply below_drew1 | refine below_set ?_ GE205.out) | exact HB.out))) : w.heap.size ≤ gb213)); have n9_ := Aside0.mk ((by rw [hg]; exact Nat.ne_of_lt (blk_lt (g := gb205) (o := .cells #[.slice Ao13 t198.length co13, .slice Ao15 t201.length co15] 26 (0, 0)) (by (with_reducible repeat (first | refine blk_drewN ?_ _ | refine blk_drew ?_ | refine blk_alloc ?_ _)); exact BK205.out)) : gb205 ≠ gb213)); have n10_ := Aside0.mk ((by rw [hg]; exact Nat.ne_of_gt (blk_lt (g := gb205) (o := .cells #[.slice Ao13 t198.length co13, .slice Ao15 t201.length co15] 26 (0, 0)) (by (with_reducible repeat (first | refine blk_drewN ?_ _ | refine blk_drew ?_ | refine blk_alloc ?_ _)); exact BK205.out)) : gb213 ≠ gb205)); clear HO200; clear HO203; clear HO208; clear HO211; clear BK205; clear HB; have HO200 := n0_; have HO203 := n1_; have HO208 := n2_; have HO211 := n3_; have BK205 := n4_; have HB := n5_; have BK213 := n6_; have GW213 := n7_; have GE213 := n8_; have NB205_213 := n9_; have NB213_205 := n10_; clear n0_ n1_ n2_ n3_ n4_ n5_ n6_ n7_ n8_ n9_ n10_; clear hb hbox hg; obtain ⟨Ao18, co18, eo18⟩ := Kd.R_slice HO208.out; subst eo18; have hnb19 := NB213_205.out; have hnc19 := NB205_213.out; have hcz20_0 : w17.cell? ⟨gb213, 0, none⟩ = some (.slice none 0 0) := (blk_cell BK213.out 0).trans rfl; have hcz20_1 : w17.cell? ⟨gb213, 1, none⟩ = some (.slice none 0 0) := (blk_cell BK213.out 1).trans rfl; have hfz20_0 := blk_frozen BK213.out 0; have hfz20_1 := blk_frozen BK213.out 1; obtain ⟨Ao21, co21, eo21⟩ := Kd.R_slice HO211.out; subst eo21))
        repeat (go_quiet (first | (go_at_call 7; (with_reducible refine (topiarylaw13_awake.calls  t196 _ (by first | exact hG | exact G.below hG (by repeat (first | (with_reducible first | exact HB.out | apply below_alloc | apply pw_below_drewN | apply below_drew1) | exact HB.out))) A2.out).mono ?_); rintro e w10 ⟨rfl, hb⟩; have n0_ := Aside0.mk (below_step (by repeat (first | (with_reducible first | exact HB.out | apply below_alloc | apply pw_below_drewN | apply below_drew1) | exact HB.out)) hb); clear HB; have HB := n0_; clear n0_; (try clear hb); (try clear hb2); (try clear hk); (try clear hi)) | (go_at_call 9; (with_reducible refine (topiarylaw13_short.calls a0 150 t197 _ A3.out).mono ?_); rintro e w' ⟨rfl, ⟨nd, rfl⟩⟩; (try first | exact ⟨rfl, _, World.drewN_drewN _ _ _⟩ | exact ⟨rfl, _, Eq.trans (World.drewN_drewN _ _ _) (congrArg (World.drewN _) (Nat.add_assoc _ _ _))⟩)) | (go_at_call 8; (with_reducible refine (parser_Parse.calls t197 t198 t201 t204 _ (by first | exact hG | exact G.below hG (by repeat (first | (with_reducible first | exact HB.out | apply below_alloc | apply pw_below_drewN | apply below_drew1) | exact HB.out))) A4.out).mono ?_); rintro e w11 ⟨v199, v202, rfl, ho0, ho1, hb⟩; have n0_ := Aside0.mk (Kd.R_lower ho0 (below_size (by repeat (first | (with_reducible first | exact HB.out | apply below_alloc | apply pw_below_drewN | apply below_drew1) | exact HB.out)))); have n1_ := Aside0.mk (Kd.R_lower ho1 (below_size (by repeat (first | (with_reducible first | exact HB.out | apply below_alloc | apply pw_below_drewN | apply below_drew1) | exact HB.out)))); have n2_ := Aside0.mk (below_step (by repeat (first | (with_reducible first | exact HB.out | apply below_alloc | apply pw_below_drewN | apply below_drew1) | exact HB.out)) hb); clear HB; have HO200 := n0_; have HO203 := n1_; have HB := n2_; clear n0_ n1_ n2_; (try clear hb); (try clear hb2); (try clear hk); (try clear hi); (try clear ho0); (try clear ho1)) | ((with_reducible refine gate_dst (N := 4) rfl ?_); (try (refine gate_guard (by rfl) ?_; dsimp only)); refine box_event ?hg (N := 4) ?hd (cs := #[.slice none 0 0, .slice none 0 0]) (t := 26) ?hr ?_; (case hd => rfl); (case hg => rfl); (case hr => first | (go_simp; done) | (go_simp; rfl)); intro gb205 hg w12 hbox hb; have n0_ := Aside0.mk (Kd.R_below (by (with_reducible repeat (first | apply Kd.R_alloc | apply Kd.R_drewN | apply Kd.R_drew)); exact HO200.out) hb); have n1_ := Aside0.mk (Kd.R_below (by (with_reducible repeat (first | apply Kd.R_alloc | apply Kd.R_drewN | apply Kd.R_drew)); exact HO203.out) hb); have n2_ := Aside0.mk (below_step (by repeat (first | (with_reducible first | exact HB.out | apply below_alloc | apply pw_below_drewN | apply below_drew1) | exact HB.out)) hb); have n3_ := Aside0.mk (hbox); have n4_ := Aside0.mk ((by rw [hg]; exact (below_size (by repeat (first | (with_reducible first | exact HB.out | apply below_alloc | apply pw_below_drewN | apply below_drew1) | exact HB.out))) : w.heap.size ≤ gb205)); have n5_ := Aside0.mk ((by rw [hg]; exact (below_size (by repeat (first | (with_reducible first | exact HB.out | apply below_alloc | apply pw_below_drewN | apply below_drew1) | exact HB.out))) : w.heap.size ≤ gb205)); clear HO200; clear HO203; clear HB; have HO200 := n0_; have HO203 := n1_; have HB := n2_; have BK205 := n3_; have GW205 := n4_; have GE205 := n5_; clear n0_ n1_ n2_ n3_ n4_ n5_; clear hb hbox hg; obtain ⟨Ao13, co13, eo13⟩ := Kd.R_slice HO200.out; subst eo13; have hcz14_0 : w12.cell? ⟨gb205, 0, none⟩ = some (.slice none 0 0) := (blk_cell BK205.out 0).trans rfl; have hcz14_1 : w12.cell? ⟨gb205, 1, none⟩ = some (.slice none 0 0) := (blk_cell BK205.out 1).trans rfl; have hfz14_0 := blk_frozen BK205.out 0; have hfz14_1 := blk_frozen BK205.out 1; obtain ⟨Ao15, co15, eo15⟩ := Kd.R_slice HO203.out; subst eo15) | (go_at_call 8; (with_reducible refine (parser_Parse.calls (((⟨#[60, 122, 122, 62]⟩ : ByteArray) ++ t197) ++ (⟨#[60, 47, 122, 122, 62]⟩ : ByteArray)) t206 t209 t212 _ (by first | exact hG | exact G.below hG (by repeat (first | (with_reducible first | exact HB.out | apply below_alloc | apply pw_below_drewN | apply below_drew1 | refine below_set ?_ GE205.out) | exact HB.out))) A8.out).mono ?_); rintro e w16 ⟨v207, v210, rfl, ho0, ho1, hb⟩; have n0_ := Aside0.mk (Kd.R_elder' (by (with_reducible repeat (first | apply Kd.R_alloc | apply Kd.R_drewN | apply Kd.R_drew)); exact (Kd.R_mono (Kd.R_far (p := ⟨gb205, 1, none⟩) (Kd.R_far (p := ⟨gb205, 0, none⟩) (Kd.R_types HO200.out BK205.out (by decide)) (fun _ hk => hk.2) (.slice Ao13 t198.length co13)) (fun _ hk => hk.2) (.slice Ao15 t201.length co15)) (fun _ h_ => h_.1))) (Kd.R_base ho0) hb); have n1_ := Aside0.mk (Kd.R_elder' (by (with_reducible repeat (first | apply Kd.R_alloc | apply Kd.R_drewN | apply Kd.R_drew)); exact (Kd.R_mono (Kd.R_far (p := ⟨gb205, 1, none⟩) (Kd.R_far (p := ⟨gb205, 0, none⟩) (Kd.R_types HO203.out BK205.out (by decide)) (fun _ hk => hk.2) (.slice Ao13 t198.length co13)) (fun _ hk => hk.2) (.slice Ao15 t201.length co15)) (fun _ h_ => h_.1))) (Kd.R_base ho1) hb); have n2_ := Aside0.mk (Kd.R_lower (Kd.R_new' ho0 (Kd.R_lt (by (with_reducible repeat (first | apply Kd.R_alloc | apply Kd.R_drewN | apply Kd.R_drew)); exact (Kd.R_mono (Kd.R_far (p := ⟨gb205, 1, none⟩) (Kd.R_far (p := ⟨gb205, 0, none⟩) (Kd.R_types HO200.out BK205.out (by decide)) (fun _ hk => hk.2) (.slice Ao13 t198.length co13)) (fun _ hk => hk.2) (.slice Ao15 t201.length co15)) (fun _ h_ => h_.1))))) (below_size (by repeat (first | (with_reducible first | exact HB.out | apply below_alloc | apply pw_below_drewN | apply below_drew1 | refine below_set ?_ GE205.out) | exact HB.out)))); have n3_ := Aside0.mk (Kd.R_lower (Kd.R_new' ho1 (Kd.R_lt (by (with_reducible repeat (first | apply Kd.R_alloc | apply Kd.R_drewN | apply Kd.R_drew)); exact (Kd.R_mono (Kd.R_far (p := ⟨gb205, 1, none⟩) (Kd.R_far (p := ⟨gb205, 0, none⟩) (Kd.R_types HO203.out BK205.out (by decide)) (fun _ hk => hk.2) (.slice Ao13 t198.length co13)) (fun _ hk => hk.2) (.slice Ao15 t201.length co15)) (fun _ h_ => h_.1))))) (below_size (by repeat (first | (with_reducible first | exact HB.out | apply below_alloc | apply pw_below_drewN | apply below_drew1 | refine below_set ?_ GE205.out) | exact HB.out)))); have n4_ := Aside0.mk (blk_below (g := gb205) (o := .cells #[.slice Ao13 t198.length co13, .slice Ao15 t201.length co15] 26 (0, 0)) (by (with_reducible repeat (first | refine blk_drewN ?_ _ | refine blk_drew ?_ | refine blk_alloc ?_ _)); refine blk_put (cs := #[.slice Ao13 t198.length co13, .slice none 0 0]) ?_ 1 _ rfl; (with_reducible repeat (first | refine blk_drewN ?_ _ | refine blk_drew ?_ | refine blk_alloc ?_ _)); refine blk_put (cs := #[.slice none 0 0, .slice none 0 0]) ?_ 0 _ rfl; (with_reducible repeat (first | refine blk_drewN ?_ _ | refine blk_drew ?_ | refine blk_alloc ?_ _)); exact BK205.out) hb); have n5_ := Aside0.mk (below_step (by repeat (first | (with_reducible first | exact HB.out | apply below_alloc | apply pw_below_drewN | apply below_drew1 | refine below_set ?_ GE205.out) | exact HB.out)) hb); clear HO200; clear HO203; clear BK205; clear HB; have HO200 := n0_; have HO203 := n1_; have HO208 := n2_; have HO211 := n3_; have BK205 := n4_; have HB := n5_; clear n0_ n1_ n2_ n3_ n4_ n5_; (try clear hb); (try clear hb2); (try clear hk); (try clear hi); (try clear ho0); (try clear ho1)) | ((with_reducible refine gate_dst (N := 6) rfl ?_); (try (refine gate_guard (by rfl) ?_; dsimp only)); refine box_event ?hg (N := 6) ?hd (cs := #[.slice none 0 0, .slice none 0 0]) (t := 26) ?hr ?_; (case hd => rfl); (case hg => rfl); (case hr => first | (go_simp; done) | (go_simp; rfl)); intro gb213 hg w17 hbox hb; have n0_ := Aside0.mk (Kd.R_below (by (with_reducible repeat (first | apply Kd.R_alloc | apply Kd.R_drewN | apply Kd.R_drew)); exact HO200.out) hb); have n1_ := Aside0.mk (Kd.R_below (by (with_reducible repeat (first | apply Kd.R_alloc | apply Kd.R_drewN | apply Kd.R_drew)); exact HO203.out) hb); have n2_ := Aside0.mk (Kd.R_below (by (with_reducible repeat (first | apply Kd.R_alloc | apply Kd.R_drewN | apply Kd.R_drew)); exact HO208.out) hb); have n3_ := Aside0.mk (Kd.R_below (by (with_reducible repeat (first | apply Kd.R_alloc | apply Kd.R_drewN | apply Kd.R_drew)); exact HO211.out) hb); have n4_ := Aside0.mk (blk_below (g := gb205) (o := .cells #[.slice Ao13 t198.length co13, .slice Ao15 t201.length co15] 26 (0, 0)) (by (with_reducible repeat (first | refine blk_drewN ?_ _ | refine blk_drew ?_ | refine blk_alloc ?_ _)); exact BK205.out) hb); have n5_ := Aside0.mk (below_step (by repeat (first | (with_reducible first | exact HB.out | apply below_alloc | apply pw_below_drewN | apply below_drew1 | refine below_set ?_ GE205.out) | exact HB.out)) hb); have n6_ := Aside0.mk (hbox); have n7_ := Aside0.mk ((by rw [hg]; exact (below_size (by repeat (first | (with_reducible first | exact HB.out | apply below_alloc | apply pw_below_drewN | apply below_drew1 | refine below_set ?_ GE205.out) | exact HB.out))) : w.heap.size ≤ gb213)); have n8_ := Aside0.mk ((by rw [hg]; exact (below_size (by repeat (first | (with_reducible first | exact HB.out | apply below_alloc | apply pw_below_drewN | apply below_drew1 | refine below_set ?_ GE205.out) | exact HB.out))) : w.heap.size ≤ gb213)); have n9_ := Aside0.mk ((by rw [hg]; exact Nat.ne_of_lt (blk_lt (g := gb205) (o := .cells #[.slice Ao13 t198.length co13, .slice Ao15 t201.length co15] 26 (0, 0)) (by (with_reducible repeat (first | refine blk_drewN ?_ _ | refine blk_drew ?_ | refine blk_alloc ?_ _)); exact BK205.out)) : gb205 ≠ gb213)); have n10_ := Aside0.mk ((by rw [hg]; exact Nat.ne_of_gt (blk_lt (g := gb205) (o := .cells #[.slice Ao13 t198.length co13, .slice Ao15 t201.length co15] 26 (0, 0)) (by (with_reducible repeat (first | refine blk_drewN ?_ _ | refine blk_drew ?_ | refine blk_alloc ?_ _)); exact BK205.out)) : gb213 ≠ gb205)); clear HO200; clear HO203; clear HO208; clear HO211; clear BK205; clear HB; have HO200 := n0_; have HO203 := n1_; have HO208 := n2_; have HO211 := n3_; have BK205 := n4_; have HB := n5_; have BK213 := n6_; have GW213 := n7_; have GE213 := n8_; have NB205_213 := n9_; have NB213_205 := n10_; clear n0_ n1_ n2_ n3_ n4_ n5_ n6_ n7_ n8_ n9_ n10_; clear hb hbox hg; obtain ⟨Ao18, co18, eo18⟩ := Kd.R_slice HO208.out; subst eo18; have hnb19 := NB213_205.out; have hnc19 := NB205_213.out; have hcz20_0 : w17.cell? ⟨gb213, 0, none⟩ = some (.slice none 0 0) := (blk_cell BK213.out 0).trans rfl; have hcz20_1 : w17.cell? ⟨gb213, 1, none⟩ = some (.slice none 0 0) := (blk_cell BK213.out 1).trans rfl; have hfz20_0 := blk_frozen BK213.out 0; have hfz20_1 := blk_frozen BK213.out 1; obtain ⟨Ao21, co21, eo21⟩ := Kd.R_slice HO211.out; subst eo21)); go_upto_region 7 with (first | (go_at_call 7; (with_reducible refine (topiarylaw13_awake.calls  t196 _ (by first | exact hG | exact G.below hG (by repeat (first | (with_reducible first | exact HB.out | apply below_alloc | apply pw_below_drewN | apply below_drew1) | exact HB.out))) A2.out).mono ?_); rintro e w10 ⟨rfl, hb⟩; have n0_ := Aside0.mk (below_step (by repeat (first | (with_reducible first | exact HB.out | apply below_alloc | apply pw_below_drewN | apply below_drew1) | exact HB.out)) hb); clear HB; have HB := n0_; clear n0_; (try clear hb); (try clear hb2); (try clear hk); (try clear hi)) | (go_at_call 9; (with_reducible refine (topiarylaw13_short.calls a0 150 t197 _ A3.out).mono ?_); rintro e w' ⟨rfl, ⟨nd, rfl⟩⟩; (try first | exact ⟨rfl, _, World.drewN_drewN _ _ _⟩ | exact ⟨rfl, _, Eq.trans (World.drewN_drewN _ _ _) (congrArg (World.drewN _) (Nat.add_assoc _ _ _))⟩)) | (go_at_call 8; (with_reducible refine (parser_Parse.calls t197 t198 t201 t204 _ (by first | exact hG | exact G.below hG (by repeat (first | (with_reducible first | exact HB.out | apply below_alloc | apply pw_below_drewN | apply below_drew1) | exact HB.out))) A4.out).mono ?_); rintro e w11 ⟨v199, v202, rfl, ho0, ho1, hb⟩; have n0_ := Aside0.mk (Kd.R_lower ho0 (below_size (by repeat (first | (with_reducible first | exact HB.out | apply below_alloc | apply pw_below_drewN | apply below_drew1) | exact HB.out)))); have n1_ := Aside0.mk (Kd.R_lower ho1 (below_size (by repeat (first | (with_reducible first | exact HB.out | apply below_alloc | apply pw_below_drewN | apply below_drew1) | exact HB.out)))); have n2_ := Aside0.mk (below_step (by repeat (first | (with_reducible first | exact HB.out | apply below_alloc | apply pw_below_drewN | apply below_drew1) | exact HB.out)) hb); clear HB; have HO200 := n0_; have HO203 := n1_; have HB := n2_; clear n0_ n1_ n2_; (try clear hb); (try clear hb2); (try clear hk); (try clear hi); (try clear ho0); (try clear ho1)) | ((with_reducible refine gate_dst (N := 4) rfl ?_); (try (refine gate_guard (by rfl) ?_; dsimp only)); refine box_event ?hg (N := 4) ?hd (cs := #[.slice none 0 0, .slice none 0 0]) (t := 26) ?hr ?_; (case hd => rfl); (case hg => rfl); (case hr => first | (go_simp; done) | (go_simp; rfl)); intro gb205 hg w12 hbox hb; have n0_ := Aside0.mk (Kd.R_below (by (with_reducible repeat (first | apply Kd.R_alloc | apply Kd.R_drewN | apply Kd.R_drew)); exact HO200.out) hb); have n1_ := Aside0.mk (Kd.R_below (by (with_reducible repeat (first | apply Kd.R_alloc | apply Kd.R_drewN | apply Kd.R_drew)); exact HO203.out) hb); have n2_ := Aside0.mk (below_step (by repeat (first | (with_reducible first | exact HB.out | apply below_alloc | apply pw_below_drewN | apply below_drew1) | exact HB.out)) hb); have n3_ := Aside0.mk (hbox); have n4_ := Aside0.mk ((by rw [hg]; exact (below_size (by repeat (first | (with_reducible first | exact HB.out | apply below_alloc | apply pw_below_drewN | apply below_drew1) | exact HB.out))) : w.heap.size ≤ gb205)); have n5_ := Aside0.mk ((by rw [hg]; exact (below_size (by repeat (first | (with_reducible first | exact HB.out | apply below_alloc | apply pw_below_drewN | apply below_drew1) | exact HB.out))) : w.heap.size ≤ gb205)); clear HO200; clear HO203; clear HB; have HO200 := n0_; have HO203 := n1_; have HB := n2_; have BK205 := n3_; have GW205 := n4_; have GE205 := n5_; clear n0_ n1_ n2_ n3_ n4_ n5_; clear hb hbox hg; obtain ⟨Ao13, co13, eo13⟩ := Kd.R_slice HO200.out; subst eo13; have hcz14_0 : w12.cell? ⟨gb205, 0, none⟩ = some (.slice none 0 0) := (blk_cell BK205.out 0).trans rfl; have hcz14_1 : w12.cell? ⟨gb205, 1, none⟩ = some (.slice none 0 0) := (blk_cell BK205.out 1).trans rfl; have hfz14_0 := blk_frozen BK205.out 0; have hfz14_1 := blk_frozen BK205.out 1; obtain ⟨Ao15, co15, eo15⟩ := Kd.R_slice HO203.out; subst eo15) | (go_at_call 8; (with_reducible refine (parser_Parse.calls (((⟨#[60, 122, 122, 62]⟩ : ByteArray) ++ t197) ++ (⟨#[60, 47, 122, 122, 62]⟩ : ByteArray)) t206 t209 t212 _ (by first | exact hG | exact G.below hG (by repeat (first | (with_reducible first | exact HB.out | apply below_alloc | apply pw_below_drewN | apply below_drew1 | refine below_set ?_ GE205.out) | exact HB.out))) A8.out).mono ?_); rintro e w16 ⟨v207, v210, rfl, ho0, ho1, hb⟩; have n0_ := Aside0.mk (Kd.R_elder' (by (with_reducible repeat (first | apply Kd.R_alloc | apply Kd.R_drewN | apply Kd.R_drew)); exact (Kd.R_mono (Kd.R_far (p := ⟨gb205, 1, none⟩) (Kd.R_far (p := ⟨gb205, 0, none⟩) (Kd.R_types HO200.out BK205.out (by decide)) (fun _ hk => hk.2) (.slice Ao13 t198.length co13)) (fun _ hk => hk.2) (.slice Ao15 t201.length co15)) (fun _ h_ => h_.1))) (Kd.R_base ho0) hb); have n1_ := Aside0.mk (Kd.R_elder' (by (with_reducible repeat (first | apply Kd.R_alloc | apply Kd.R_drewN | apply Kd.R_drew)); exact (Kd.R_mono (Kd.R_far (p := ⟨gb205, 1, none⟩) (Kd.R_far (p := ⟨gb205, 0, none⟩) (Kd.R_types HO203.out BK205.out (by decide)) (fun _ hk => hk.2) (.slice Ao13 t198.length co13)) (fun _ hk => hk.2) (.slice Ao15 t201.length co15)) (fun _ h_ => h_.1))) (Kd.R_base ho1) hb); have n2_ := Aside0.mk (Kd.R_lower (Kd.R_new' ho0 (Kd.R_lt (by (with_reducible repeat (first | apply Kd.R_alloc | apply Kd.R_drewN | apply Kd.R_drew)); exact (Kd.R_mono (Kd.R_far (p := ⟨gb205, 1, none⟩) (Kd.R_far (p := ⟨gb205, 0, none⟩) (Kd.R_types HO200.out BK205.out (by decide)) (fun _ hk => hk.2) (.slice Ao13 t198.length co13)) (fun _ hk => hk.2) (.slice Ao15 t201.length co15)) (fun _ h_ => h_.1))))) (below_size (by repeat (first | (with_reducible first | exact HB.out | apply below_alloc | apply pw_below_drewN | apply below_drew1 | refine below_set ?_ GE205.out) | exact HB.out)))); have n3_ := Aside0.mk (Kd.R_lower (Kd.R_new' ho1 (Kd.R_lt (by (with_reducible repeat (first | apply Kd.R_alloc | apply Kd.R_drewN | apply Kd.R_drew)); exact (Kd.R_mono (Kd.R_far (p := ⟨gb205, 1, none⟩) (Kd.R_far (p := ⟨gb205, 0, none⟩) (Kd.R_types HO203.out BK205.out (by decide)) (fun _ hk => hk.2) (.slice Ao13 t198.length co13)) (fun _ hk => hk.2) (.slice Ao15 t201.length co15)) (fun _ h_ => h_.1))))) (below_size (by repeat (first | (with_reducible first | exact HB.out | apply below_alloc | apply pw_below_drewN | apply below_drew1 | refine below_set ?_ GE205.out) | exact HB.out)))); have n4_ := Aside0.mk (blk_below (g := gb205) (o := .cells #[.slice Ao13 t198.length co13, .slice Ao15 t201.length co15] 26 (0, 0)) (by (with_reducible repeat (first | refine blk_drewN ?_ _ | refine blk_drew ?_ | refine blk_alloc ?_ _)); refine blk_put (cs := #[.slice Ao13 t198.length co13, .slice none 0 0]) ?_ 1 _ rfl; (with_reducible repeat (first | refine blk_drewN ?_ _ | refine blk_drew ?_ | refine blk_alloc ?_ _)); refine blk_put (cs := #[.slice none 0 0, .slice none 0 0]) ?_ 0 _ rfl; (with_reducible repeat (first | refine blk_drewN ?_ _ | refine blk_drew ?_ | refine blk_alloc ?_ _)); exact BK205.out) hb); have n5_ := Aside0.mk (below_step (by repeat (first | (with_reducible first | exact HB.out | apply below_alloc | apply pw_below_drewN | apply below_drew1 | refine below_set ?_ GE205.out) | exact HB.out)) hb); clear HO200; clear HO203; clear BK205; clear HB; have HO200 := n0_; have HO203 := n1_; have HO208 := n2_; have HO211 := n3_; have BK205 := n4_; have HB := n5_; clear n0_ n1_ n2_ n3_ n4_ n5_; (try clear hb); (try clear hb2); (try clear hk); (try clear hi); (try clear ho0); (try clear ho1)) | ((with_reducible refine gate_dst (N := 6) rfl ?_); (try (refine gate_guard (by rfl) ?_; dsimp only)); refine box_event ?hg (N := 6) ?hd (cs := #[.slice none 0 0, .slice none 0 0]) (t := 26) ?hr ?_; (case hd => rfl); (case hg => rfl); (case hr => first | (go_simp; done) | (go_simp; rfl)); intro gb213 hg w17 hbox hb; have n0_ := Aside0.mk (Kd.R_below (by (with_reducible repeat (first | apply Kd.R_alloc | apply Kd.R_drewN | apply Kd.R_drew)); exact HO200.out) hb); have n1_ := Aside0.mk (Kd.R_below (by (with_reducible repeat (first | apply Kd.R_alloc | apply Kd.R_drewN | apply Kd.R_drew)); exact HO203.out) hb); have n2_ := Aside0.mk (Kd.R_below (by (with_reducible repeat (first | apply Kd.R_alloc | apply Kd.R_drewN | apply Kd.R_drew)); exact HO208.out) hb); have n3_ := Aside0.mk (Kd.R_below (by (with_reducible repeat (first | apply Kd.R_alloc | apply Kd.R_drewN | apply Kd.R_drew)); exact HO211.out) hb); have n4_ := Aside0.mk (blk_below (g := gb205) (o := .cells #[.slice Ao13 t198.length co13, .slice Ao15 t201.length co15] 26 (0, 0)) (by (with_reducible repeat (first | refine blk_drewN ?_ _ | refine blk_drew ?_ | refine blk_alloc ?_ _)); exact BK205.out) hb); have n5_ := Aside0.mk (below_step (by repeat (first | (with_reducible first | exact HB.out | apply below_alloc | apply pw_below_drewN | apply below_drew1 | refine below_set ?_ GE205.out) | exact HB.out)) hb); have n6_ := Aside0.mk (hbox); have n7_ := Aside0.mk ((by rw [hg]; exact (below_size (by repeat (first | (with_reducible first | exact HB.out | apply below_alloc | apply pw_below_drewN | apply below_drew1 | refine below_set ?_ GE205.out) | exact HB.out))) : w.heap.size ≤ gb213)); have n8_ := Aside0.mk ((by rw [hg]; exact (below_size (by repeat (first | (with_reducible first | exact HB.out | apply below_alloc | apply pw_below_drewN | apply below_drew1 | refine below_set ?_ GE205.out) | exact HB.out))) : w.heap.size ≤ gb213)); have n9_ := Aside0.mk ((by rw [hg]; exact Nat.ne_of_lt (blk_lt (g := gb205) (o := .cells #[.slice Ao13 t198.length co13, .slice Ao15 t201.length co15] 26 (0, 0)) (by (with_reducible repeat (first | refine blk_drewN ?_ _ | refine blk_drew ?_ | refine blk_alloc ?_ _)); exact BK205.out)) : gb205 ≠ gb213)); have n10_ := Aside0.mk ((by rw [hg]; exact Nat.ne_of_gt (blk_lt (g := gb205) (o := .cells #[.slice Ao13 t198.length co13, .slice Ao15 t201.length co15] 26 (0, 0)) (by (with_reducible repeat (first | refine blk_drewN ?_ _ | refine blk_drew ?_ | refine blk_alloc ?_ _)); exact BK205.out)) : gb213 ≠ gb205)); clear HO200; clear HO203; clear HO208; clear HO211; clear BK205; clear HB; have HO200 := n0_; have HO203 := n1_; have HO208 := n2_; have HO211 := n3_; have BK205 := n4_; have HB := n5_; have BK213 := n6_; have GW213 := n7_; have GE213 := n8_; have NB205_213 := n9_; have NB213_205 := n10_; clear n0_ n1_ n2_ n3_ n4_ n5_ n6_ n7_ n8_ n9_ n10_; clear hb hbox hg; obtain ⟨Ao18, co18, eo18⟩ := Kd.R_slice HO208.out; subst eo18; have hnb19 := NB213_205.out; have hnc19 := NB205_213.out; have hcz20_0 : w17.cell? ⟨gb213, 0, none⟩ = some (.slice none 0 0) := (blk_cell BK213.out 0).trans rfl; have hcz20_1 : w17.cell? ⟨gb213, 1, none⟩ = some (.slice none 0 0) := (blk_cell BK213.out 1).trans rfl; have hfz20_0 := blk_frozen BK213.out 0; have hfz20_1 := blk_frozen BK213.out 1; obtain ⟨Ao21, co21, eo21⟩ := Kd.R_slice HO211.out; subst eo21)))
        (try simp only [Act.put, List.setIfInBounds_toArray, List.set_cons_zero, List.set_cons_succ])
        go_cut [42] (fun v42 wc => ∃ (kq : Nat) (x42_8 : Bool), v42 = .bool x42_8 ∧ Aside0 (topiarylaw13_ParserNests.j0 kq t196 x42_8 t198 t201 t206 t209 = some r) ∧ Aside0 (kq ≤ k) ∧ Aside0 (Kd.R Kd.string 9 wc w.heap.size (fun k_ => some k_ ≠ ((.slice Ao18 t206.length co18) : Value).ownBlock) (.slice Ao13 t198.length co13) t198) ∧ Aside0 (Kd.R k33 33 wc w.heap.size (fun k_ => some k_ ≠ ((.slice Ao21 t209.length co21) : Value).ownBlock) (.slice Ao15 t201.length co15) t201) ∧ Aside0 (Kd.R Kd.string 9 wc w.heap.size (fun k_ => some k_ ≠ ((.slice Ao13 t198.length co13) : Value).ownBlock) (.slice Ao18 t206.length co18) t206) ∧ Aside0 (Kd.R k33 33 wc w.heap.size (fun k_ => some k_ ≠ ((.slice Ao15 t201.length co15) : Value).ownBlock) (.slice Ao21 t209.length co21) t209) ∧ Aside0 (wc.heap[gb205]? = some (.cells #[(.slice Ao13 t198.length co13), (.slice Ao15 t201.length co15)] 26 (0, 0))) ∧ Aside0 (wc.heap[gb213]? = some (.cells #[(.slice Ao18 t206.length co18), (.slice Ao21 t209.length co21)] 26 (0, 0))) ∧ Aside0 (Below w.heap.size w wc))
        case first =>
          have H := HC9.out
          clear HC9
          by_cases c22 : t212 = 0
          · rw [if_pos c22] at H
            have c22b0 : (t212 == 0) = true := beq_iff_eq.mpr c22
            have c22b1 : (t212 != 0) = false := bne_eq_false_iff_eq.mpr c22
            clear c22
            (first | rw [c22b0] | (simp only [i64_w, i32_w]; rw [c22b0]) | skip)
            have H' := Aside0.mk H
            clear H
            have hnb23 := NB213_205.out
            have hnc23 := NB205_213.out
            have hcz24_0 : w17.cell? ⟨gb213, 0, none⟩ = some (.slice none 0 0) := (blk_cell BK213.out 0).trans rfl
            have hcz24_1 : w17.cell? ⟨gb213, 1, none⟩ = some (.slice none 0 0) := (blk_cell BK213.out 1).trans rfl
            have hfz24_0 := blk_frozen BK213.out 0
            have hfz24_1 := blk_frozen BK213.out 1
            have hcz25_0 : w17.cell? ⟨gb205, 0, none⟩ = some (.slice Ao13 t198.length co13) := (blk_cell BK205.out 0).trans rfl
            have hcz25_1 : w17.cell? ⟨gb205, 1, none⟩ = some (.slice Ao15 t201.length co15) := (blk_cell BK205.out 1).trans rfl
            have hfz25_0 := blk_frozen BK205.out 0
            have hfz25_1 := blk_frozen BK205.out 1
            go_wp2
            repeat (go_quiet (fail); try go_wp2)
            go_meet
            case rel => exact ⟨_, (decide ((t209.length : Int) < (wrap64 ((t201.length : Int) + 1)))), (by first | rfl | (simp; done) | (simp [*]; done)), H', ⟨by first | omega | exact Nat.le_refl _⟩, ⟨by (with_reducible repeat (first | apply Kd.R_alloc | apply Kd.R_drewN | apply Kd.R_drew)); exact Kd.R_mono (Kd.R_far (p := ⟨gb213, 1, none⟩) (Kd.R_far (p := ⟨gb213, 0, none⟩) (Kd.R_types HO200.out BK213.out (by decide)) (fun _ hk => hk.2) (.slice Ao18 t206.length co18)) (fun _ hk => hk.2) (.slice Ao21 t209.length co21)) (fun _ hk => hk.1.2)⟩, ⟨by (with_reducible repeat (first | apply Kd.R_alloc | apply Kd.R_drewN | apply Kd.R_drew)); exact Kd.R_mono (Kd.R_far (p := ⟨gb213, 1, none⟩) (Kd.R_far (p := ⟨gb213, 0, none⟩) (Kd.R_types HO203.out BK213.out (by decide)) (fun _ hk => hk.2) (.slice Ao18 t206.length co18)) (fun _ hk => hk.2) (.slice Ao21 t209.length co21)) (fun _ hk => hk.1.2)⟩, ⟨by (with_reducible repeat (first | apply Kd.R_alloc | apply Kd.R_drewN | apply Kd.R_drew)); exact Kd.R_mono (Kd.R_far (p := ⟨gb213, 1, none⟩) (Kd.R_far (p := ⟨gb213, 0, none⟩) (Kd.R_types HO208.out BK213.out (by decide)) (fun _ hk => hk.2) (.slice Ao18 t206.length co18)) (fun _ hk => hk.2) (.slice Ao21 t209.length co21)) (fun _ hk => hk.1.2)⟩, ⟨by (with_reducible repeat (first | apply Kd.R_alloc | apply Kd.R_drewN | apply Kd.R_drew)); exact Kd.R_mono (Kd.R_far (p := ⟨gb213, 1, none⟩) (Kd.R_far (p := ⟨gb213, 0, none⟩) (Kd.R_types HO211.out BK213.out (by decide)) (fun _ hk => hk.2) (.slice Ao18 t206.length co18)) (fun _ hk => hk.2) (.slice Ao21 t209.length co21)) (fun _ hk => hk.1.2)⟩, ⟨by (with_reducible repeat (first | refine blk_drewN ?_ _ | refine blk_drew ?_ | refine blk_alloc ?_ _)); refine blk_far ?_ NB205_213.out _; (with_reducible repeat (first | refine blk_drewN ?_ _ | refine blk_drew ?_ | refine blk_alloc ?_ _)); refine blk_far ?_ NB205_213.out _; (with_reducible repeat (first | refine blk_drewN ?_ _ | refine blk_drew ?_ | refine blk_alloc ?_ _)); exact BK205.out⟩, ⟨by (with_reducible repeat (first | refine blk_drewN ?_ _ | refine blk_drew ?_ | refine blk_alloc ?_ _)); refine blk_put (cs := #[.slice Ao18 t206.length co18, .slice none 0 0]) ?_ 1 _ rfl; (with_reducible repeat (first | refine blk_drewN ?_ _ | refine blk_drew ?_ | refine blk_alloc ?_ _)); refine blk_put (cs := #[.slice none 0 0, .slice none 0 0]) ?_ 0 _ rfl; (with_reducible repeat (first | refine blk_drewN ?_ _ | refine blk_drew ?_ | refine blk_alloc ?_ _)); exact BK213.out⟩, ⟨by repeat (first | (with_reducible first | exact HB.out | apply below_alloc | apply pw_below_drewN | apply below_drew1 | refine below_set ?_ GE205.out | refine below_set ?_ GE213.out) | exact HB.out)⟩⟩
          · rw [if_neg c22] at H
            have c22b0 : (t212 == 0) = false := beq_eq_false_iff_ne.mpr c22
            have c22b1 : (t212 != 0) = true := bne_iff_ne.mpr c22
            (first | rw [c22b0] | (simp only [i64_w, i32_w]; rw [c22b0]) | skip)
            have H' := Aside0.mk H
            clear H
            go_wp2
            repeat (go_quiet (fail); try go_wp2)
            go_meet
            case rel => exact ⟨_, (true), (by first | rfl | (simp; done) | (simp [*]; done)), H', ⟨by first | omega | exact Nat.le_refl _⟩, ⟨by (with_reducible repeat (first | apply Kd.R_alloc | apply Kd.R_drewN | apply Kd.R_drew)); exact Kd.R_mono (Kd.R_far (p := ⟨gb213, 1, none⟩) (Kd.R_far (p := ⟨gb213, 0, none⟩) (Kd.R_types HO200.out BK213.out (by decide)) (fun _ hk => hk.2) (.slice Ao18 t206.length co18)) (fun _ hk => hk.2) (.slice Ao21 t209.length co21)) (fun _ hk => hk.1.2)⟩, ⟨by (with_reducible repeat (first | apply Kd.R_alloc | apply Kd.R_drewN | apply Kd.R_drew)); exact Kd.R_mono (Kd.R_far (p := ⟨gb213, 1, none⟩) (Kd.R_far (p := ⟨gb213, 0, none⟩) (Kd.R_types HO203.out BK213.out (by decide)) (fun _ hk => hk.2) (.slice Ao18 t206.length co18)) (fun _ hk => hk.2) (.slice Ao21 t209.length co21)) (fun _ hk => hk.1.2)⟩, ⟨by (with_reducible repeat (first | apply Kd.R_alloc | apply Kd.R_drewN | apply Kd.R_drew)); exact Kd.R_mono (Kd.R_far (p := ⟨gb213, 1, none⟩) (Kd.R_far (p := ⟨gb213, 0, none⟩) (Kd.R_types HO208.out BK213.out (by decide)) (fun _ hk => hk.2) (.slice Ao18 t206.length co18)) (fun _ hk => hk.2) (.slice Ao21 t209.length co21)) (fun _ hk => hk.1.2)⟩, ⟨by (with_reducible repeat (first | apply Kd.R_alloc | apply Kd.R_drewN | apply Kd.R_drew)); exact Kd.R_mono (Kd.R_far (p := ⟨gb213, 1, none⟩) (Kd.R_far (p := ⟨gb213, 0, none⟩) (Kd.R_types HO211.out BK213.out (by decide)) (fun _ hk => hk.2) (.slice Ao18 t206.length co18)) (fun _ hk => hk.2) (.slice Ao21 t209.length co21)) (fun _ hk => hk.1.2)⟩, ⟨by (with_reducible repeat (first | refine blk_drewN ?_ _ | refine blk_drew ?_ | refine blk_alloc ?_ _)); refine blk_far ?_ NB205_213.out _; (with_reducible repeat (first | refine blk_drewN ?_ _ | refine blk_drew ?_ | refine blk_alloc ?_ _)); refine blk_far ?_ NB205_213.out _; (with_reducible repeat (first | refine blk_drewN ?_ _ | refine blk_drew ?_ | refine blk_alloc ?_ _)); exact BK205.out⟩, ⟨by (with_reducible repeat (first | refine blk_drewN ?_ _ | refine blk_drew ?_ | refine blk_alloc ?_ _)); refine blk_put (cs := #[.slice Ao18 t206.length co18, .slice none 0 0]) ?_ 1 _ rfl; (with_reducible repeat (first | refine blk_drewN ?_ _ | refine blk_drew ?_ | refine blk_alloc ?_ _)); refine blk_put (cs := #[.slice none 0 0, .slice none 0 0]) ?_ 0 _ rfl; (with_reducible repeat (first | refine blk_drewN ?_ _ | refine blk_drew ?_ | refine blk_alloc ?_ _)); exact BK213.out⟩, ⟨by repeat (first | (with_reducible first | exact HB.out | apply below_alloc | apply pw_below_drewN | apply below_drew1 | refine below_set ?_ GE205.out | refine below_set ?_ GE213.out) | exact HB.out)⟩⟩
        case rest =>
          clear HC9
          try clear c1
          try clear c2
          try clear p2
          try clear c5
          try clear c5b0
          try clear c5b1
          try clear c6
          try clear c6b0
          try clear c6b1
          try clear c6b2
          try clear p6
          try clear c7
          try clear c7b0
          try clear c7b1
          try clear c7b2
          try clear c19
          try clear c22
          try clear c22b0
          try clear c22b1
          try clear c23
          try clear hcz14_0
          try clear hcz14_1
          try clear hcz20_0
          try clear hcz20_1
          try clear hcz24_0
          try clear hcz24_1
          try clear hcz25_0
          try clear hcz25_1
          try clear hfz14_0
          try clear hfz14_1
          try clear hfz20_0
          try clear hfz20_1
          try clear hfz24_0
          try clear hfz24_1
          try clear hfz25_0
          try clear hfz25_1
          obtain ⟨kq, x42_8, rfl, HA, HJ8, HO_206000, HO_206001, HO_214000, HO_214001, BK205, BK213, HB⟩ := hcut
          cases kq with
          | zero => exact absurd HA.out (by simp [topiarylaw13_ParserNests.j0])
          | succ kj8 =>
            have H := HA.out
            clear HA
            simp only [topiarylaw13_ParserNests.j0] at H
            by_cases c26 : x42_8 = true
            · subst c26
              have H1 : (some false) = some r := by rw [if_pos rfl] at H; exact H
              clear H
              have H := H1
              clear H1
              obtain rfl := Option.some.inj H
              go_wp2
              repeat (go_quiet (fail); try go_wp2)
              go_ret
              exact ⟨by first | rfl | (simp [errW_none, errW_some] <;> rfl) | (simp [*, errW_none, errW_some] <;> rfl), by repeat (first | (with_reducible first | exact HB.out | apply below_alloc | apply pw_below_drewN | apply below_drew1 | refine below_set ?_ GE205.out | refine below_set ?_ GE213.out) | exact HB.out)⟩
            · replace c26 := Bool.eq_false_iff.mpr c26
              subst c26
              have H1 : (if 1 < (t209.length : Int) then (if ((rd_T33 t209 1).f0) = 3 then (topiarylaw13_ParserNests.j1 kj8 t196 2 t198 t201 t206 t209) else (topiarylaw13_ParserNests.j1 kj8 t196 1 t198 t201 t206 t209)) else (none)) = some r := by rw [if_neg (show ¬ (false = true) by decide)] at H; exact H
              clear H
              have H := H1
              clear H1
              by_cases c27 : 1 < (t209.length : Int)
              · rw [if_pos c27] at H
                have c27b0 : decide (1 < (t209.length : Int)) = true := decide_eq_true c27
                have c27b1 : decide (1 < t209.length) = true := decide_eq_true (by omega)
                clear c27
                have HC28 := Aside0.mk H
                clear H
                have hnb29 := NB213_205.out
                have hnc29 := NB205_213.out
                have hcz30_0 : wc.cell? ⟨gb213, 0, none⟩ = some (.slice Ao18 t206.length co18) := (blk_cell BK213.out 0).trans rfl
                have hcz30_1 : wc.cell? ⟨gb213, 1, none⟩ = some (.slice Ao21 t209.length co21) := (blk_cell BK213.out 1).trans rfl
                have hfz30_0 := blk_frozen BK213.out 0
                have hfz30_1 := blk_frozen BK213.out 1
                have p214 : 0 ≤ (1 : Int) := (by omega)
                have q214 : 1 < (t209.length : Int) := of_decide_eq_true (by first | (with_reducible assumption) | assumption)
                obtain ⟨ad214, e214, hx214_0, hx214_1, hx214_2, hx214_3⟩ := at_T33 (Kd.R_reads' HO_214001.out).2.2 1 p214 q214
                cases e214
                (try simp only [show (1 : Int).toNat = 1 from rfl, Nat.reduceMul, Nat.reduceEqDiff, Go.Addr.add, ↓reduceIte] at hx214_0)
                (try simp only [show (1 : Int).toNat = 1 from rfl, Nat.reduceMul, Nat.reduceEqDiff, Go.Addr.add, ↓reduceIte] at hx214_1)
                (try simp only [show (1 : Int).toNat = 1 from rfl, Nat.reduceMul, Nat.reduceEqDiff, Go.Addr.add, ↓reduceIte] at hx214_2)
                (try simp only [show (1 : Int).toNat = 1 from rfl, Nat.reduceMul, Nat.reduceEqDiff, Go.Addr.add, ↓reduceIte] at hx214_3)
                have qi214 : (1 < t209.length) = True := eq_true (by omega)
                (try rw [show ((1 : Int)).toNat = 1 from rfl] at hx214_0)
                (try rw [show 1 * 4 = 4 from rfl] at hx214_0)
                (try rw [show ((1 : Int)).toNat = 1 from rfl] at hx214_1)
                (try rw [show 1 * 4 = 4 from rfl] at hx214_1)
                (try rw [show ((1 : Int)).toNat = 1 from rfl] at hx214_2)
                (try rw [show 1 * 4 = 4 from rfl] at hx214_2)
                (try rw [show ((1 : Int)).toNat = 1 from rfl] at hx214_3)
                (try rw [show 1 * 4 = 4 from rfl] at hx214_3)
                replace p214 := eq_true p214
                replace q214 := eq_true q214
                go_upto_if 48 with (fail)
                repeat (go_quiet (fail); go_upto_if 48 with (fail))
                go_cut [8] (fun v8 wc => ∃ (kq : Nat) (x8_27 : Int), v8 = .int .i64 x8_27 ∧ Aside0 (topiarylaw13_ParserNests.j1 kq t196 x8_27 t198 t201 t206 t209 = some r) ∧ Aside0 (kq ≤ kj8) ∧ Aside0 (Kd.R Kd.string 9 wc w.heap.size (fun k_ => some k_ ≠ ((.slice Ao18 t206.length co18) : Value).ownBlock) (.slice Ao13 t198.length co13) t198) ∧ Aside0 (Kd.R k33 33 wc w.heap.size (fun k_ => some k_ ≠ ((.slice (some ad214) t209.length co21) : Value).ownBlock) (.slice Ao15 t201.length co15) t201) ∧ Aside0 (Kd.R Kd.string 9 wc w.heap.size (fun k_ => some k_ ≠ ((.slice Ao13 t198.length co13) : Value).ownBlock) (.slice Ao18 t206.length co18) t206) ∧ Aside0 (Kd.R k33 33 wc w.heap.size (fun k_ => some k_ ≠ ((.slice Ao15 t201.length co15) : Value).ownBlock) (.slice (some ad214) t209.length co21) t209) ∧ Aside0 (wc.heap[gb205]? = some (.cells #[(.slice Ao13 t198.length co13), (.slice Ao15 t201.length co15)] 26 (0, 0))) ∧ Aside0 (wc.heap[gb213]? = some (.cells #[(.slice Ao18 t206.length co18), (.slice (some ad214) t209.length co21)] 26 (0, 0))) ∧ Aside0 (Below w.heap.size w wc))
                case first =>
                  have H := HC28.out
                  clear HC28
                  by_cases c31 : ((rd_T33 t209 1).f0) = 3
                  · rw [if_pos c31] at H
                    have c31b0 : (((rd_T33 t209 1).f0) == 3) = true := beq_iff_eq.mpr c31
                    have c31b1 : (((rd_T33 t209 1).f0) != 3) = false := bne_eq_false_iff_eq.mpr c31
                    clear c31
                    (first | rw [c31b0] | (simp only [i64_w, i32_w]; rw [c31b0]) | skip)
                    have H' := Aside0.mk H
                    clear H
                    go_wp2
                    repeat (go_quiet (fail); try go_wp2)
                    go_meet
                    case rel => exact ⟨_, (2), (by first | rfl | (simp; done) | (simp [*]; done)), H', ⟨by have := HJ8.out; first | omega | exact Nat.le_refl _⟩, ⟨by (with_reducible repeat (first | apply Kd.R_alloc | apply Kd.R_drewN | apply Kd.R_drew)); exact HO_206000.out⟩, ⟨by (with_reducible repeat (first | apply Kd.R_alloc | apply Kd.R_drewN | apply Kd.R_drew)); exact HO_206001.out⟩, ⟨by (with_reducible repeat (first | apply Kd.R_alloc | apply Kd.R_drewN | apply Kd.R_drew)); exact HO_214000.out⟩, ⟨by (with_reducible repeat (first | apply Kd.R_alloc | apply Kd.R_drewN | apply Kd.R_drew)); exact HO_214001.out⟩, ⟨by (with_reducible repeat (first | refine blk_drewN ?_ _ | refine blk_drew ?_ | refine blk_alloc ?_ _)); exact BK205.out⟩, ⟨by (with_reducible repeat (first | refine blk_drewN ?_ _ | refine blk_drew ?_ | refine blk_alloc ?_ _)); exact BK213.out⟩, ⟨by repeat (first | (with_reducible first | exact HB.out | apply below_alloc | apply pw_below_drewN | apply below_drew1 | refine below_set ?_ GE205.out | refine below_set ?_ GE213.out) | exact HB.out)⟩⟩
                  · rw [if_neg c31] at H
                    have c31b0 : (((rd_T33 t209 1).f0) == 3) = false := beq_eq_false_iff_ne.mpr c31
                    have c31b1 : (((rd_T33 t209 1).f0) != 3) = true := bne_iff_ne.mpr c31
                    (first | rw [c31b0] | (simp only [i64_w, i32_w]; rw [c31b0]) | skip)
                    have H' := Aside0.mk H
                    clear H
                    go_wp2
                    repeat (go_quiet (fail); try go_wp2)
                    go_meet
                    case rel => exact ⟨_, (1), (by first | rfl | (simp; done) | (simp [*]; done)), H', ⟨by have := HJ8.out; first | omega | exact Nat.le_refl _⟩, ⟨by (with_reducible repeat (first | apply Kd.R_alloc | apply Kd.R_drewN | apply Kd.R_drew)); exact HO_206000.out⟩, ⟨by (with_reducible repeat (first | apply Kd.R_alloc | apply Kd.R_drewN | apply Kd.R_drew)); exact HO_206001.out⟩, ⟨by (with_reducible repeat (first | apply Kd.R_alloc | apply Kd.R_drewN | apply Kd.R_drew)); exact HO_214000.out⟩, ⟨by (with_reducible repeat (first | apply Kd.R_alloc | apply Kd.R_drewN | apply Kd.R_drew)); exact HO_214001.out⟩, ⟨by (with_reducible repeat (first | refine blk_drewN ?_ _ | refine blk_drew ?_ | refine blk_alloc ?_ _)); exact BK205.out⟩, ⟨by (with_reducible repeat (first | refine blk_drewN ?_ _ | refine blk_drew ?_ | refine blk_alloc ?_ _)); exact BK213.out⟩, ⟨by repeat (first | (with_reducible first | exact HB.out | apply below_alloc | apply pw_below_drewN | apply below_drew1 | refine below_set ?_ GE205.out | refine below_set ?_ GE213.out) | exact HB.out)⟩⟩
                case rest =>
                  clear HC28
                  try clear c1
                  try clear c2
                  try clear p2
                  try clear q2
                  try clear hx2
                  try clear qi2
                  try clear c3
                  try clear c5
                  try clear c5b0
                  try clear c5b1
                  try clear c6
                  try clear c6b0
                  try clear c6b1
                  try clear c6b2
                  try clear p6
                  try clear c7
                  try clear c7b0
                  try clear c7b1
                  try clear c7b2
                  try clear c19
                  try clear p21
                  try clear q21
                  try clear hx21
                  try clear qi21
                  try clear c22
                  try clear c22b0
                  try clear c22b1
                  try clear c23
                  try clear c26
                  try clear c27
                  try clear c27b0
                  try clear c27b1
                  try clear c29
                  try clear c31
                  try clear c31b0
                  try clear c31b1
                  try clear hcz14_0
                  try clear hcz14_1
                  try clear hcz20_0
                  try clear hcz20_1
                  try clear hcz24_0
                  try clear hcz24_1
                  try clear hcz25_0
                  try clear hcz25_1
                  try clear hcz30_0
                  try clear hcz30_1
                  try clear hfz14_0
                  try clear hfz14_1
                  try clear hfz20_0
                  try clear hfz20_1
                  try clear hfz24_0
                  try clear hfz24_1
                  try clear hfz25_0
                  try clear hfz25_1
                  try clear hfz30_0
                  try clear hfz30_1
                  try clear hx214_0
                  try clear hx214_1
                  try clear hx214_2
                  try clear hx214_3
                  try clear p2
                  try clear p214
                  try clear p6
                  try clear q214
                  obtain ⟨kq, x8_27, rfl, HA, HJ27, HO_206000, HO_206001, HO_214000, HO_214001, BK205, BK213, HB⟩ := hcut
                  cases kq with
                  | zero => exact absurd HA.out (by simp [topiarylaw13_ParserNests.j1])
                  | succ kj27 =>
                    have H := HA.out
                    clear HA
                    simp only [topiarylaw13_ParserNests.j1] at H
                    have HC32 := Aside0.mk H
                    clear H
                    go_upto_region 12 with (fail)
                    repeat (go_quiet (fail); go_upto_region 12 with (fail))
                    go_cut [69] (fun v69 wc => ∃ (kq : Nat) (x69_31 : Bool), v69 = .bool x69_31 ∧ Aside0 (topiarylaw13_ParserNests.j2 kq t196 x8_27 x69_31 t198 t201 t206 t209 = some r) ∧ Aside0 (kq ≤ kj27) ∧ Aside0 (Kd.R Kd.string 9 wc w.heap.size (fun k_ => some k_ ≠ ((.slice Ao18 t206.length co18) : Value).ownBlock) (.slice Ao13 t198.length co13) t198) ∧ Aside0 (Kd.R k33 33 wc w.heap.size (fun k_ => some k_ ≠ ((.slice (some ad214) t209.length co21) : Value).ownBlock) (.slice Ao15 t201.length co15) t201) ∧ Aside0 (Kd.R Kd.string 9 wc w.heap.size (fun k_ => some k_ ≠ ((.slice Ao13 t198.length co13) : Value).ownBlock) (.slice Ao18 t206.length co18) t206) ∧ Aside0 (Kd.R k33 33 wc w.heap.size (fun k_ => some k_ ≠ ((.slice Ao15 t201.length co15) : Value).ownBlock) (.slice (some ad214) t209.length co21) t209) ∧ Aside0 (wc.heap[gb205]? = some (.cells #[(.slice Ao13 t198.length co13), (.slice Ao15 t201.length co15)] 26 (0, 0))) ∧ Aside0 (wc.heap[gb213]? = some (.cells #[(.slice Ao18 t206.length co18), (.slice (some ad214) t209.length co21)] 26 (0, 0))) ∧ Aside0 (Below w.heap.size w wc))
                    case first =>
                      have H := HC32.out
                      clear HC32
                      by_cases c33 : (t209.length : Int) < (wrap64 ((t201.length : Int) + x8_27))
                      · rw [if_pos c33] at H
                        have c33b0 : decide ((t209.length : Int) < (wrap64 ((t201.length : Int) + x8_27))) = true := decide_eq_true c33
                        clear c33
                        (first | rw [c33b0] | (simp only [i64_w, i32_w]; rw [c33b0]) | skip)
                        have H' := Aside0.mk H
                        clear H
                        have hnb34 := NB213_205.out
                        have hnc34 := NB205_213.out
                        have hcz35_0 : wc.cell? ⟨gb213, 0, none⟩ = some (.slice Ao18 t206.length co18) := (blk_cell BK213.out 0).trans rfl
                        have hcz35_1 : wc.cell? ⟨gb213, 1, none⟩ = some (.slice (some ad214) t209.length co21) := (blk_cell BK213.out 1).trans rfl
                        have hfz35_0 := blk_frozen BK213.out 0
                        have hfz35_1 := blk_frozen BK213.out 1
                        have hcz36_0 : wc.cell? ⟨gb205, 0, none⟩ = some (.slice Ao13 t198.length co13) := (blk_cell BK205.out 0).trans rfl
                        have hcz36_1 : wc.cell? ⟨gb205, 1, none⟩ = some (.slice Ao15 t201.length co15) := (blk_cell BK205.out 1).trans rfl
                        have hfz36_0 := blk_frozen BK205.out 0
                        have hfz36_1 := blk_frozen BK205.out 1
                        go_wp2
                        repeat (go_quiet (fail); try go_wp2)
                        go_meet
                        case rel => exact ⟨_, (true), (by first | rfl | (simp; done) | (simp [*]; done)), H', ⟨by have := HJ8.out; have := HJ27.out; first | omega | exact Nat.le_refl _⟩, ⟨by (with_reducible repeat (first | apply Kd.R_alloc | apply Kd.R_drewN | apply Kd.R_drew)); exact HO_206000.out⟩, ⟨by (with_reducible repeat (first | apply Kd.R_alloc | apply Kd.R_drewN | apply Kd.R_drew)); exact HO_206001.out⟩, ⟨by (with_reducible repeat (first | apply Kd.R_alloc | apply Kd.R_drewN | apply Kd.R_drew)); exact HO_214000.out⟩, ⟨by (with_reducible repeat (first | apply Kd.R_alloc | apply Kd.R_drewN | apply Kd.R_drew)); exact HO_214001.out⟩, ⟨by (with_reducible repeat (first | refine blk_drewN ?_ _ | refine blk_drew ?_ | refine blk_alloc ?_ _)); exact BK205.out⟩, ⟨by (with_reducible repeat (first | refine blk_drewN ?_ _ | refine blk_drew ?_ | refine blk_alloc ?_ _)); exact BK213.out⟩, ⟨by repeat (first | (with_reducible first | exact HB.out | apply below_alloc | apply pw_below_drewN | apply below_drew1 | refine below_set ?_ GE205.out | refine below_set ?_ GE213.out) | exact HB.out)⟩⟩
                      · rw [if_neg c33] at H
                        have c33b0 : decide ((t209.length : Int) < (wrap64 ((t201.length : Int) + x8_27))) = false := decide_eq_false c33
                        clear c33
                        (first | rw [c33b0] | (simp only [i64_w, i32_w]; rw [c33b0]) | skip)
                        by_cases c37 : 0 < (t209.length : Int)
                        · rw [if_pos c37] at H
                          have c37b0 : decide (0 < (t209.length : Int)) = true := decide_eq_true c37
                          have c37b1 : decide (0 < t209.length) = true := decide_eq_true (by omega)
                          clear c37
                          by_cases c38 : 0 ≤ ((rd_T33 t209 0).f1)
                          · rw [if_pos c38] at H
                            have c38b0 : decide (0 ≤ ((rd_T33 t209 0).f1)) = true := decide_eq_true c38
                            clear c38
                            by_cases c39 : ((rd_T33 t209 0).f1) < (t206.length : Int)
                            · rw [if_pos c39] at H
                              have c39b0 : decide (((rd_T33 t209 0).f1) < (t206.length : Int)) = true := decide_eq_true c39
                              clear c39
                              have H' := Aside0.mk H
                              clear H
                              have hnb40 := NB213_205.out
                              have hnc40 := NB205_213.out
                              have hcz41_0 : wc.cell? ⟨gb213, 0, none⟩ = some (.slice Ao18 t206.length co18) := (blk_cell BK213.out 0).trans rfl
                              have hcz41_1 : wc.cell? ⟨gb213, 1, none⟩ = some (.slice (some ad214) t209.length co21) := (blk_cell BK213.out 1).trans rfl
                              have hfz41_0 := blk_frozen BK213.out 0
                              have hfz41_1 := blk_frozen BK213.out 1
                              have hcz42_0 : wc.cell? ⟨gb205, 0, none⟩ = some (.slice Ao13 t198.length co13) := (blk_cell BK205.out 0).trans rfl
                              have hcz42_1 : wc.cell? ⟨gb205, 1, none⟩ = some (.slice Ao15 t201.length co15) := (blk_cell BK205.out 1).trans rfl
                              have hfz42_0 := blk_frozen BK205.out 0
                              have hfz42_1 := blk_frozen BK205.out 1
                              have p215 : 0 ≤ (0 : Int) := (by omega)
                              have q215 : 0 < (t209.length : Int) := of_decide_eq_true (by first | (with_reducible assumption) | assumption)
                              obtain ⟨ad215, e215, hx215_0, hx215_1, hx215_2, hx215_3⟩ := at_T33 (Kd.R_reads' HO_214001.out).2.2 0 p215 q215
                              obtain rfl : ad214 = ad215 := (by injection e215)
                              have qi215 : (0 < t209.length) = True := eq_true (by omega)
                              (try rw [show ((0 : Int)).toNat = 0 from rfl] at hx215_0)
                              (try rw [show 0 * 4 = 0 from rfl] at hx215_0)
                              (try rw [Addr.add_zero'] at hx215_0)
                              (try rw [show ((0 : Int)).toNat = 0 from rfl] at hx215_1)
                              (try rw [show 0 * 4 = 0 from rfl] at hx215_1)
                              (try rw [Addr.add_zero'] at hx215_1)
                              (try rw [show ((0 : Int)).toNat = 0 from rfl] at hx215_2)
                              (try rw [show 0 * 4 = 0 from rfl] at hx215_2)
                              (try rw [Addr.add_zero'] at hx215_2)
                              (try rw [show ((0 : Int)).toNat = 0 from rfl] at hx215_3)
                              (try rw [show 0 * 4 = 0 from rfl] at hx215_3)
                              (try rw [Addr.add_zero'] at hx215_3)
                              replace p215 := eq_true p215
                              replace q215 := eq_true q215
                              have p216 : 0 ≤ (((rd_T33 t209 0).f1) : Int) := of_decide_eq_true (by first | (with_reducible assumption) | assumption)
                              have q216 : ((rd_T33 t209 0).f1) < (t206.length : Int) := of_decide_eq_true (by first | (with_reducible assumption) | assumption)
                              obtain ⟨ad216, e216, hx216_0⟩ := Kd.at_string (Kd.R_reads' HO_214000.out).2.2 ((rd_T33 t209 0).f1) p216 q216
                              cases e216
                              replace p216 := eq_true p216
                              replace q216 := eq_true q216
                              go_wp2
                              repeat (go_quiet (fail); try go_wp2)
                              go_meet
                              case rel => exact ⟨_, (((rdOf ByteArray.empty t206 ((rd_T33 t209 0).f1)).toList != ([122, 122] : List UInt8))), (by first | rfl | (simp; done) | (simp [*]; done)), H', ⟨by have := HJ8.out; have := HJ27.out; first | omega | exact Nat.le_refl _⟩, ⟨by (with_reducible repeat (first | apply Kd.R_alloc | apply Kd.R_drewN | apply Kd.R_drew)); exact HO_206000.out⟩, ⟨by (with_reducible repeat (first | apply Kd.R_alloc | apply Kd.R_drewN | apply Kd.R_drew)); exact HO_206001.out⟩, ⟨by (with_reducible repeat (first | apply Kd.R_alloc | apply Kd.R_drewN | apply Kd.R_drew)); exact HO_214000.out⟩, ⟨by (with_reducible repeat (first | apply Kd.R_alloc | apply Kd.R_drewN | apply Kd.R_drew)); exact HO_214001.out⟩, ⟨by (with_reducible repeat (first | refine blk_drewN ?_ _ | refine blk_drew ?_ | refine blk_alloc ?_ _)); exact BK205.out⟩, ⟨by (with_reducible repeat (first | refine blk_drewN ?_ _ | refine blk_drew ?_ | refine blk_alloc ?_ _)); exact BK213.out⟩, ⟨by repeat (first | (with_reducible first | exact HB.out | apply below_alloc | apply pw_below_drewN | apply below_drew1 | refine below_set ?_ GE205.out | refine below_set ?_ GE213.out) | exact HB.out)⟩⟩
                            · rw [if_neg c39] at H
                              exact absurd H (by simp)
                          · rw [if_neg c38] at H
                            exact absurd H (by simp)
                        · rw [if_neg c37] at H
                          exact absurd H (by simp)
                    case rest =>
                      clear HC32
                      try clear c1
                      try clear c2
                      try clear p2
                      try clear q2
                      try clear hx2
                      try clear qi2
                      try clear c3
                      try clear c4
                      try clear c5
                      try clear c5b0
                      try clear c5b1
                      try clear c6
                      try clear c6b0
                      try clear c6b1
                      try clear c6b2
                      try clear p6
                      try clear c7
                      try clear c7b0
                      try clear c7b1
                      try clear c7b2
                      try clear c19
                      try clear p21
                      try clear q21
                      try clear hx21
                      try clear qi21
                      try clear c22
                      try clear c22b0
                      try clear c22b1
                      try clear c23
                      try clear c26
                      try clear c27
                      try clear c27b0
                      try clear c27b1
                      try clear c29
                      try clear c31
                      try clear c31b0
                      try clear c31b1
                      try clear c33
                      try clear c33b0
                      try clear c34
                      try clear c37
                      try clear c37b0
                      try clear c37b1
                      try clear c38
                      try clear c38b0
                      try clear c39
                      try clear c39b0
                      try clear c40
                      try clear hcz14_0
                      try clear hcz14_1
                      try clear hcz20_0
                      try clear hcz20_1
                      try clear hcz24_0
                      try clear hcz24_1
                      try clear hcz25_0
                      try clear hcz25_1
                      try clear hcz30_0
                      try clear hcz30_1
                      try clear hcz35_0
                      try clear hcz35_1
                      try clear hcz36_0
                      try clear hcz36_1
                      try clear hcz41_0
                      try clear hcz41_1
                      try clear hcz42_0
                      try clear hcz42_1
                      try clear hfz14_0
                      try clear hfz14_1
                      try clear hfz20_0
                      try clear hfz20_1
                      try clear hfz24_0
                      try clear hfz24_1
                      try clear hfz25_0
                      try clear hfz25_1
                      try clear hfz30_0
                      try clear hfz30_1
                      try clear hfz35_0
                      try clear hfz35_1
                      try clear hfz36_0
                      try clear hfz36_1
                      try clear hfz41_0
                      try clear hfz41_1
                      try clear hfz42_0
                      try clear hfz42_1
                      try clear hx214_0
                      try clear hx214_1
                      try clear hx214_2
                      try clear hx214_3
                      try clear hx215_0
                      try clear hx215_1
                      try clear hx215_2
                      try clear hx215_3
                      try clear hx216_0
                      try clear p2
                      try clear p21
                      try clear p214
                      try clear p215
                      try clear p216
                      try clear p6
                      try clear q2
                      try clear q21
                      try clear q214
                      try clear q215
                      try clear q216
                      obtain ⟨kq, x69_31, rfl, HA, HJ31, HO_206000, HO_206001, HO_214000, HO_214001, BK205, BK213, HB⟩ := hcut
                      cases kq with
                      | zero => exact absurd HA.out (by simp [topiarylaw13_ParserNests.j2])
                      | succ kj31 =>
                        have H := HA.out
                        clear HA
                        simp only [topiarylaw13_ParserNests.j2] at H
                        by_cases c43 : x69_31 = true
                        · subst c43
                          have H1 : (some false) = some r := by rw [if_pos rfl] at H; exact H
                          clear H
                          have H := H1
                          clear H1
                          obtain rfl := Option.some.inj H
                          go_wp2
                          repeat (go_quiet (fail); try go_wp2)
                          go_ret
                          exact ⟨by first | rfl | (simp [errW_none, errW_some] <;> rfl) | (simp [*, errW_none, errW_some] <;> rfl), by repeat (first | (with_reducible first | exact HB.out | apply below_alloc | apply pw_below_drewN | apply below_drew1 | refine below_set ?_ GE205.out | refine below_set ?_ GE213.out) | exact HB.out)⟩
                        · replace c43 := Bool.eq_false_iff.mpr c43
                          subst c43
                          have H1 : (topiarylaw13_ParserNests.l0 kj31 t196 x8_27 0 t198 t201 t206 t209) = some r := by rw [if_neg (show ¬ (false = true) by decide)] at H; exact H
                          clear H
                          have H := H1
                          clear H1
                          have H' := Aside0.mk H
                          clear H
                          go_wp2
                          repeat (go_quiet (fail); try go_wp2)
                          go_loopg [9] kj31 (fun kq v9 w' => ∃ (x9_4 : Int), v9 = .int .i64 x9_4 ∧ Aside0 (topiarylaw13_ParserNests.l0 kq t196 x8_27 x9_4 t198 t201 t206 t209 = some r) ∧ Aside0 (kq ≤ kj31) ∧ Aside0 (Kd.R Kd.string 9 w' w.heap.size (fun k_ => some k_ ≠ ((.slice Ao18 t206.length co18) : Value).ownBlock) (.slice Ao13 t198.length co13) t198) ∧ Aside0 (Kd.R k33 33 w' w.heap.size (fun k_ => some k_ ≠ ((.slice (some ad214) t209.length co21) : Value).ownBlock) (.slice Ao15 t201.length co15) t201) ∧ Aside0 (Kd.R Kd.string 9 w' w.heap.size (fun k_ => some k_ ≠ ((.slice Ao13 t198.length co13) : Value).ownBlock) (.slice Ao18 t206.length co18) t206) ∧ Aside0 (Kd.R k33 33 w' w.heap.size (fun k_ => some k_ ≠ ((.slice Ao15 t201.length co15) : Value).ownBlock) (.slice (some ad214) t209.length co21) t209) ∧ Aside0 (w'.heap[gb205]? = some (.cells #[(.slice Ao13 t198.length co13), (.slice Ao15 t201.length co15)] 26 (0, 0))) ∧ Aside0 (w'.heap[gb213]? = some (.cells #[(.slice Ao18 t206.length co18), (.slice (some ad214) t209.length co21)] 26 (0, 0))) ∧ Aside0 (Below w.heap.size w w'))
                          case atStart => exact ⟨(0), (by first | rfl | (simp; done) | (simp [*]; done)), H', ⟨Nat.le_refl _⟩, ⟨by (with_reducible repeat (first | apply Kd.R_alloc | apply Kd.R_drewN | apply Kd.R_drew)); exact HO_206000.out⟩, ⟨by (with_reducible repeat (first | apply Kd.R_alloc | apply Kd.R_drewN | apply Kd.R_drew)); exact HO_206001.out⟩, ⟨by (with_reducible repeat (first | apply Kd.R_alloc | apply Kd.R_drewN | apply Kd.R_drew)); exact HO_214000.out⟩, ⟨by (with_reducible repeat (first | apply Kd.R_alloc | apply Kd.R_drewN | apply Kd.R_drew)); exact HO_214001.out⟩, ⟨by (with_reducible repeat (first | refine blk_drewN ?_ _ | refine blk_drew ?_ | refine blk_alloc ?_ _)); exact BK205.out⟩, ⟨by (with_reducible repeat (first | refine blk_drewN ?_ _ | refine blk_drew ?_ | refine blk_alloc ?_ _)); exact BK213.out⟩, ⟨by repeat (first | (with_reducible first | exact HB.out | apply below_alloc | apply pw_below_drewN | apply below_drew1 | refine below_set ?_ GE205.out | refine below_set ?_ GE213.out) | exact HB.out)⟩⟩
                          case round =>
                            clear H'
                            try clear c1
                            try clear c2
                            try clear p2
                            try clear q2
                            try clear hx2
                            try clear qi2
                            try clear c3
                            try clear c4
                            try clear c5
                            try clear c5b0
                            try clear c5b1
                            try clear c6
                            try clear c6b0
                            try clear c6b1
                            try clear c6b2
                            try clear p6
                            try clear c7
                            try clear c7b0
                            try clear c7b1
                            try clear c7b2
                            try clear c19
                            try clear p21
                            try clear q21
                            try clear hx21
                            try clear qi21
                            try clear c22
                            try clear c22b0
                            try clear c22b1
                            try clear c23
                            try clear c26
                            try clear c27
                            try clear c27b0
                            try clear c27b1
                            try clear c29
                            try clear c31
                            try clear c31b0
                            try clear c31b1
                            try clear c33
                            try clear c33b0
                            try clear c34
                            try clear c37
                            try clear c37b0
                            try clear c37b1
                            try clear c38
                            try clear c38b0
                            try clear c39
                            try clear c39b0
                            try clear c40
                            try clear c43
                            try clear hcz14_0
                            try clear hcz14_1
                            try clear hcz20_0
                            try clear hcz20_1
                            try clear hcz24_0
                            try clear hcz24_1
                            try clear hcz25_0
                            try clear hcz25_1
                            try clear hcz30_0
                            try clear hcz30_1
                            try clear hcz35_0
                            try clear hcz35_1
                            try clear hcz36_0
                            try clear hcz36_1
                            try clear hcz41_0
                            try clear hcz41_1
                            try clear hcz42_0
                            try clear hcz42_1
                            try clear hfz14_0
                            try clear hfz14_1
                            try clear hfz20_0
                            try clear hfz20_1
                            try clear hfz24_0
                            try clear hfz24_1
                            try clear hfz25_0
                            try clear hfz25_1
                            try clear hfz30_0
                            try clear hfz30_1
                            try clear hfz35_0
                            try clear hfz35_1
                            try clear hfz36_0
                            try clear hfz36_1
                            try clear hfz41_0
                            try clear hfz41_1
                            try clear hfz42_0
                            try clear hfz42_1
                            try clear hx214_0
                            try clear hx214_1
                            try clear hx214_2
                            try clear hx214_3
                            try clear hx215_0
                            try clear hx215_1
                            try clear hx215_2
                            try clear hx215_3
                            try clear hx216_0
                            try clear p2
                            try clear p21
                            try clear p214
                            try clear p215
                            try clear p216
                            try clear p6
                            try clear q2
                            try clear q21
                            try clear q214
                            try clear q215
                            try clear q216
                            obtain ⟨x9_4, rfl, HA, HK4, HO_206000, HO_206001, HO_214000, HO_214001, BK205, BK213, HB⟩ := hrel
                            cases gk with
                            | zero => exact absurd HA.out (by simp [topiarylaw13_ParserNests.l0])
                            | succ k4 =>
                              have H := HA.out
                              clear HA
                              simp only [topiarylaw13_ParserNests.l0] at H
                              by_cases c44 : x9_4 < (t201.length : Int)
                              · rw [if_pos c44] at H
                                have c44b0 : decide (x9_4 < (t201.length : Int)) = true := decide_eq_true c44
                                clear c44
                                by_cases c45 : 0 ≤ x9_4
                                · rw [if_pos c45] at H
                                  have c45b0 : decide (0 ≤ x9_4) = true := decide_eq_true c45
                                  clear c45
                                  obtain ⟨ji46, hji46⟩ : ∃ j_ : Int, (wrap64 (x9_4 + x8_27)) = j_ := ⟨_, rfl⟩
                                  replace H : (if 0 ≤ (ji46) then (if (ji46) < (t209.length : Int) then (if x9_4 > 0 then (topiarylaw13_ParserNests.j4 k4 t196 x8_27 x9_4 (wrap64 (((rd_T33 t201 x9_4).f2) + x8_27)) t198 t201 t206 t209 ((rd_T33 t201 x9_4).f0) ((rd_T33 t201 x9_4).f1) ((rd_T33 t201 x9_4).f2) ((rd_T33 t201 x9_4).f3) ((rd_T33 t209 (ji46)).f0) ((rd_T33 t209 (ji46)).f1) ((rd_T33 t209 (ji46)).f2) ((rd_T33 t209 (ji46)).f3)) else (topiarylaw13_ParserNests.j4 k4 t196 x8_27 x9_4 0 t198 t201 t206 t209 ((rd_T33 t201 x9_4).f0) ((rd_T33 t201 x9_4).f1) ((rd_T33 t201 x9_4).f2) ((rd_T33 t201 x9_4).f3) ((rd_T33 t209 (ji46)).f0) ((rd_T33 t209 (ji46)).f1) ((rd_T33 t209 (ji46)).f2) ((rd_T33 t209 (ji46)).f3))) else (none)) else (none)) = some r := by first | (rw [hji46] at H; exact H) | (simp only [hji46] at H ⊢; exact H)
                                  have hji46w : (IntKind.i64.wrap (x9_4 + x8_27)) = ji46 := (i64_w _).trans hji46
                                  by_cases c47 : 0 ≤ (ji46)
                                  · rw [if_pos c47] at H
                                    have c47b0 : decide (0 ≤ (ji46)) = true := decide_eq_true c47
                                    clear c47
                                    by_cases c48 : (ji46) < (t209.length : Int)
                                    · rw [if_pos c48] at H
                                      have c48b0 : decide ((ji46) < (t209.length : Int)) = true := decide_eq_true c48
                                      clear c48
                                      have HC49 := Aside0.mk H
                                      clear H
                                      have hnb50 := NB205_213.out
                                      have hnc50 := NB213_205.out
                                      have hcz51_0 : wr.cell? ⟨gb205, 0, none⟩ = some (.slice Ao13 t198.length co13) := (blk_cell BK205.out 0).trans rfl
                                      have hcz51_1 : wr.cell? ⟨gb205, 1, none⟩ = some (.slice Ao15 t201.length co15) := (blk_cell BK205.out 1).trans rfl
                                      have hfz51_0 := blk_frozen BK205.out 0
                                      have hfz51_1 := blk_frozen BK205.out 1
                                      have p217 : 0 ≤ (x9_4 : Int) := of_decide_eq_true (by first | (with_reducible assumption) | assumption)
                                      have q217 : x9_4 < (t201.length : Int) := of_decide_eq_true (by first | (with_reducible assumption) | assumption)
                                      obtain ⟨ad217, e217, hx217_0, hx217_1, hx217_2, hx217_3⟩ := at_T33 (Kd.R_reads' HO_206001.out).2.2 x9_4 p217 q217
                                      cases e217
                                      replace p217 := eq_true p217
                                      replace q217 := eq_true q217
                                      go_upto_if 90 with (first | ((with_reducible refine gate_dst (N := 10) rfl ?_); (try (refine gate_guard (by rfl) ?_; dsimp only)); refine box_event ?hg (N := 10) ?hd (cs := #[.int .i64 0, .int .i64 0, .int .i64 0, .string (⟨#[]⟩ : ByteArray)]) (t := 33) ?hr ?_; (case hd => rfl); (case hg => rfl); (case hr => first | (go_simp; done) | (go_simp; rfl)); intro gb218 hg w52 hbox hb; have n0_ := Aside0.mk (Kd.R_below (by (with_reducible repeat (first | apply Kd.R_alloc | apply Kd.R_drewN | apply Kd.R_drew)); exact HO_206000.out) hb); have n1_ := Aside0.mk (Kd.R_below (Kd.R_elderB (by (with_reducible repeat (first | apply Kd.R_alloc | apply Kd.R_drewN | apply Kd.R_drew)); exact HO_206001.out) gb218 (Nat.le_of_eq hg.symm)) hb); have n2_ := Aside0.mk (Kd.R_below (by (with_reducible repeat (first | apply Kd.R_alloc | apply Kd.R_drewN | apply Kd.R_drew)); exact HO_214000.out) hb); have n3_ := Aside0.mk (Kd.R_below (Kd.R_elderB (by (with_reducible repeat (first | apply Kd.R_alloc | apply Kd.R_drewN | apply Kd.R_drew)); exact HO_214001.out) gb218 (Nat.le_of_eq hg.symm)) hb); have n4_ := Aside0.mk (blk_below (g := gb205) (o := .cells #[.slice Ao13 t198.length co13, .slice (some ad217) t201.length co15] 26 (0, 0)) (by (with_reducible repeat (first | refine blk_drewN ?_ _ | refine blk_drew ?_ | refine blk_alloc ?_ _)); exact BK205.out) hb); have n5_ := Aside0.mk (blk_below (g := gb213) (o := .cells #[.slice Ao18 t206.length co18, .slice (some ad214) t209.length co21] 26 (0, 0)) (by (with_reducible repeat (first | refine blk_drewN ?_ _ | refine blk_drew ?_ | refine blk_alloc ?_ _)); exact BK213.out) hb); have n6_ := Aside0.mk (below_step (by repeat (first | (with_reducible first | exact HB.out | apply below_alloc | apply pw_below_drewN | apply below_drew1 | refine below_set ?_ GE205.out | refine below_set ?_ GE213.out) | exact HB.out)) hb); have n7_ := Aside0.mk (hbox); have n8_ := Aside0.mk ((by rw [hg]; exact (below_size (by repeat (first | (with_reducible first | exact HB.out | apply below_alloc | apply pw_below_drewN | apply below_drew1 | refine below_set ?_ GE205.out | refine below_set ?_ GE213.out) | exact HB.out))) : w.heap.size ≤ gb218)); have n9_ := Aside0.mk ((by rw [hg]; exact (below_size (by repeat (first | (with_reducible first | exact HB.out | apply below_alloc | apply pw_below_drewN | apply below_drew1 | refine below_set ?_ GE205.out | refine below_set ?_ GE213.out) | exact HB.out))) : w.heap.size ≤ gb218)); have n10_ := Aside0.mk ((by rw [hg]; exact Nat.ne_of_lt (blk_lt (g := gb205) (o := .cells #[.slice Ao13 t198.length co13, .slice (some ad217) t201.length co15] 26 (0, 0)) (by (with_reducible repeat (first | refine blk_drewN ?_ _ | refine blk_drew ?_ | refine blk_alloc ?_ _)); exact BK205.out)) : gb205 ≠ gb218)); have n11_ := Aside0.mk ((by rw [hg]; exact Nat.ne_of_gt (blk_lt (g := gb205) (o := .cells #[.slice Ao13 t198.length co13, .slice (some ad217) t201.length co15] 26 (0, 0)) (by (with_reducible repeat (first | refine blk_drewN ?_ _ | refine blk_drew ?_ | refine blk_alloc ?_ _)); exact BK205.out)) : gb218 ≠ gb205)); have n12_ := Aside0.mk ((by rw [hg]; exact Nat.ne_of_lt (blk_lt (g := gb213) (o := .cells #[.slice Ao18 t206.length co18, .slice (some ad214) t209.length co21] 26 (0, 0)) (by (with_reducible repeat (first | refine blk_drewN ?_ _ | refine blk_drew ?_ | refine blk_alloc ?_ _)); exact BK213.out)) : gb213 ≠ gb218)); have n13_ := Aside0.mk ((by rw [hg]; exact Nat.ne_of_gt (blk_lt (g := gb213) (o := .cells #[.slice Ao18 t206.length co18, .slice (some ad214) t209.length co21] 26 (0, 0)) (by (with_reducible repeat (first | refine blk_drewN ?_ _ | refine blk_drew ?_ | refine blk_alloc ?_ _)); exact BK213.out)) : gb218 ≠ gb213)); clear HO_206000; clear HO_206001; clear HO_214000; clear HO_214001; clear BK205; clear BK213; clear HB; have HO_206000 := n0_; have HO_206001 := n1_; have HO_214000 := n2_; have HO_214001 := n3_; have BK205 := n4_; have BK213 := n5_; have HB := n6_; have BK218 := n7_; have GW218 := n8_; have GE218 := n9_; have NB205_218 := n10_; have NB218_205 := n11_; have NB213_218 := n12_; have NB218_213 := n13_; clear n0_ n1_ n2_ n3_ n4_ n5_ n6_ n7_ n8_ n9_ n10_ n11_ n12_ n13_; clear hb hbox hg; have hnb53 := NB218_205.out; have hnc53 := NB205_218.out; have hnb54 := NB218_213.out; have hnc54 := NB213_218.out; have hcz55_0 : w52.cell? ⟨gb218, 0, none⟩ = some (.int .i64 0) := (blk_cell BK218.out 0).trans rfl; have hcz55_1 : w52.cell? ⟨gb218, 1, none⟩ = some (.int .i64 0) := (blk_cell BK218.out 1).trans rfl; have hcz55_2 : w52.cell? ⟨gb218, 2, none⟩ = some (.int .i64 0) := (blk_cell BK218.out 2).trans rfl; have hcz55_3 : w52.cell? ⟨gb218, 3, none⟩ = some (.string (⟨#[]⟩ : ByteArray)) := (blk_cell BK218.out 3).trans rfl; have hfz55_0 := blk_frozen BK218.out 0; have hfz55_1 := blk_frozen BK218.out 1; have hfz55_2 := blk_frozen BK218.out 2; have hfz55_3 := blk_frozen BK218.out 3; have hcz56_0 : w52.cell? ⟨gb213, 0, none⟩ = some (.slice Ao18 t206.length co18) := (blk_cell BK213.out 0).trans rfl; have hcz56_1 : w52.cell? ⟨gb213, 1, none⟩ = some (.slice (some ad214) t209.length co21) := (blk_cell BK213.out 1).trans rfl; have hfz56_0 := blk_frozen BK213.out 0; have hfz56_1 := blk_frozen BK213.out 1; have p219 : 0 ≤ ((ji46) : Int) := of_decide_eq_true (by first | (with_reducible assumption) | assumption); have q219 : (ji46) < (t209.length : Int) := of_decide_eq_true (by first | (with_reducible assumption) | assumption); obtain ⟨ad219, e219, hx219_0, hx219_1, hx219_2, hx219_3⟩ := at_T33 (Kd.R_reads' HO_214001.out).2.2 (ji46) p219 q219; obtain rfl : ad214 = ad219 := (by injection e219); have hn219_0 : ad214.block ≠ gb218 := (by first | exact Kd.own_blk (Kd.R_ne HO_214001.out BK218.out (by decide)) | exact Kd.own_blk (fun e_ => (HO_214001.out.1 _ e_.symm).2 rfl) | exact Kd.own_blk (fun e_ => (HO_214001.out.1 _ e_.symm).1.2 rfl)); have hn219_1 : ad214.block ≠ gb218 := (by first | exact Kd.own_blk (Kd.R_ne HO_214001.out BK218.out (by decide)) | exact Kd.own_blk (fun e_ => (HO_214001.out.1 _ e_.symm).2 rfl) | exact Kd.own_blk (fun e_ => (HO_214001.out.1 _ e_.symm).1.2 rfl)); have hn219_2 : ad214.block ≠ gb218 := (by first | exact Kd.own_blk (Kd.R_ne HO_214001.out BK218.out (by decide)) | exact Kd.own_blk (fun e_ => (HO_214001.out.1 _ e_.symm).2 rfl) | exact Kd.own_blk (fun e_ => (HO_214001.out.1 _ e_.symm).1.2 rfl)); have hn219_3 : ad214.block ≠ gb218 := (by first | exact Kd.own_blk (Kd.R_ne HO_214001.out BK218.out (by decide)) | exact Kd.own_blk (fun e_ => (HO_214001.out.1 _ e_.symm).2 rfl) | exact Kd.own_blk (fun e_ => (HO_214001.out.1 _ e_.symm).1.2 rfl)); have hw219_0 := fun (n_ : Nat) => (show (w52.drewN n_).cell? _ = some _ from hx219_0); replace hx219_0 := (cell_far (p := ⟨gb218, 0, none⟩) (by first | (rw [add_block]; exact hn219_0) | (show (Addr.add _ _).block ≠ _; rw [add_block]; exact hn219_0) | exact hn219_0) (.int .i64 ((rd_T33 t201 x9_4).f0))).trans hx219_0; replace hw219_0 := fun (n_ : Nat) => (cell_far (p := ⟨gb218, 0, none⟩) (by first | (rw [add_block]; exact hn219_0) | (show (Addr.add _ _).block ≠ _; rw [add_block]; exact hn219_0) | exact hn219_0) (.int .i64 ((rd_T33 t201 x9_4).f0))).trans (hw219_0 n_); have hw219_1 := fun (n_ : Nat) => (show (w52.drewN n_).cell? _ = some _ from hx219_1); replace hx219_1 := (cell_far (p := ⟨gb218, 0, none⟩) (by first | (rw [add_block]; exact hn219_0) | (show (Addr.add _ _).block ≠ _; rw [add_block]; exact hn219_0) | exact hn219_0) (.int .i64 ((rd_T33 t201 x9_4).f0))).trans hx219_1; replace hw219_1 := fun (n_ : Nat) => (cell_far (p := ⟨gb218, 0, none⟩) (by first | (rw [add_block]; exact hn219_0) | (show (Addr.add _ _).block ≠ _; rw [add_block]; exact hn219_0) | exact hn219_0) (.int .i64 ((rd_T33 t201 x9_4).f0))).trans (hw219_1 n_); have hw219_2 := fun (n_ : Nat) => (show (w52.drewN n_).cell? _ = some _ from hx219_2); replace hx219_2 := (cell_far (p := ⟨gb218, 0, none⟩) (by first | (rw [add_block]; exact hn219_0) | (show (Addr.add _ _).block ≠ _; rw [add_block]; exact hn219_0) | exact hn219_0) (.int .i64 ((rd_T33 t201 x9_4).f0))).trans hx219_2; replace hw219_2 := fun (n_ : Nat) => (cell_far (p := ⟨gb218, 0, none⟩) (by first | (rw [add_block]; exact hn219_0) | (show (Addr.add _ _).block ≠ _; rw [add_block]; exact hn219_0) | exact hn219_0) (.int .i64 ((rd_T33 t201 x9_4).f0))).trans (hw219_2 n_); have hw219_3 := fun (n_ : Nat) => (show (w52.drewN n_).cell? _ = some _ from hx219_3); replace hx219_3 := (cell_far (p := ⟨gb218, 0, none⟩) (by first | (rw [add_block]; exact hn219_0) | (show (Addr.add _ _).block ≠ _; rw [add_block]; exact hn219_0) | exact hn219_0) (.int .i64 ((rd_T33 t201 x9_4).f0))).trans hx219_3; replace hw219_3 := fun (n_ : Nat) => (cell_far (p := ⟨gb218, 0, none⟩) (by first | (rw [add_block]; exact hn219_0) | (show (Addr.add _ _).block ≠ _; rw [add_block]; exact hn219_0) | exact hn219_0) (.int .i64 ((rd_T33 t201 x9_4).f0))).trans (hw219_3 n_); replace hx219_0 := (cell_far (p := ⟨gb218, 1, none⟩) (by first | (rw [add_block]; exact hn219_1) | (show (Addr.add _ _).block ≠ _; rw [add_block]; exact hn219_1) | exact hn219_1) (.int .i64 ((rd_T33 t201 x9_4).f1))).trans hx219_0; replace hw219_0 := fun (n_ : Nat) => (cell_far (p := ⟨gb218, 1, none⟩) (by first | (rw [add_block]; exact hn219_1) | (show (Addr.add _ _).block ≠ _; rw [add_block]; exact hn219_1) | exact hn219_1) (.int .i64 ((rd_T33 t201 x9_4).f1))).trans (hw219_0 n_); replace hx219_1 := (cell_far (p := ⟨gb218, 1, none⟩) (by first | (rw [add_block]; exact hn219_1) | (show (Addr.add _ _).block ≠ _; rw [add_block]; exact hn219_1) | exact hn219_1) (.int .i64 ((rd_T33 t201 x9_4).f1))).trans hx219_1; replace hw219_1 := fun (n_ : Nat) => (cell_far (p := ⟨gb218, 1, none⟩) (by first | (rw [add_block]; exact hn219_1) | (show (Addr.add _ _).block ≠ _; rw [add_block]; exact hn219_1) | exact hn219_1) (.int .i64 ((rd_T33 t201 x9_4).f1))).trans (hw219_1 n_); replace hx219_2 := (cell_far (p := ⟨gb218, 1, none⟩) (by first | (rw [add_block]; exact hn219_1) | (show (Addr.add _ _).block ≠ _; rw [add_block]; exact hn219_1) | exact hn219_1) (.int .i64 ((rd_T33 t201 x9_4).f1))).trans hx219_2; replace hw219_2 := fun (n_ : Nat) => (cell_far (p := ⟨gb218, 1, none⟩) (by first | (rw [add_block]; exact hn219_1) | (show (Addr.add _ _).block ≠ _; rw [add_block]; exact hn219_1) | exact hn219_1) (.int .i64 ((rd_T33 t201 x9_4).f1))).trans (hw219_2 n_); replace hx219_3 := (cell_far (p := ⟨gb218, 1, none⟩) (by first | (rw [add_block]; exact hn219_1) | (show (Addr.add _ _).block ≠ _; rw [add_block]; exact hn219_1) | exact hn219_1) (.int .i64 ((rd_T33 t201 x9_4).f1))).trans hx219_3; replace hw219_3 := fun (n_ : Nat) => (cell_far (p := ⟨gb218, 1, none⟩) (by first | (rw [add_block]; exact hn219_1) | (show (Addr.add _ _).block ≠ _; rw [add_block]; exact hn219_1) | exact hn219_1) (.int .i64 ((rd_T33 t201 x9_4).f1))).trans (hw219_3 n_); replace hx219_0 := (cell_far (p := ⟨gb218, 2, none⟩) (by first | (rw [add_block]; exact hn219_2) | (show (Addr.add _ _).block ≠ _; rw [add_block]; exact hn219_2) | exact hn219_2) (.int .i64 ((rd_T33 t201 x9_4).f2))).trans hx219_0; replace hw219_0 := fun (n_ : Nat) => (cell_far (p := ⟨gb218, 2, none⟩) (by first | (rw [add_block]; exact hn219_2) | (show (Addr.add _ _).block ≠ _; rw [add_block]; exact hn219_2) | exact hn219_2) (.int .i64 ((rd_T33 t201 x9_4).f2))).trans (hw219_0 n_); replace hx219_1 := (cell_far (p := ⟨gb218, 2, none⟩) (by first | (rw [add_block]; exact hn219_2) | (show (Addr.add _ _).block ≠ _; rw [add_block]; exact hn219_2) | exact hn219_2) (.int .i64 ((rd_T33 t201 x9_4).f2))).trans hx219_1; replace hw219_1 := fun (n_ : Nat) => (cell_far (p := ⟨gb218, 2, none⟩) (by first | (rw [add_block]; exact hn219_2) | (show (Addr.add _ _).block ≠ _; rw [add_block]; exact hn219_2) | exact hn219_2) (.int .i64 ((rd_T33 t201 x9_4).f2))).trans (hw219_1 n_); replace hx219_2 := (cell_far (p := ⟨gb218, 2, none⟩) (by first | (rw [add_block]; exact hn219_2) | (show (Addr.add _ _).block ≠ _; rw [add_block]; exact hn219_2) | exact hn219_2) (.int .i64 ((rd_T33 t201 x9_4).f2))).trans hx219_2; replace hw219_2 := fun (n_ : Nat) => (cell_far (p := ⟨gb218, 2, none⟩) (by first | (rw [add_block]; exact hn219_2) | (show (Addr.add _ _).block ≠ _; rw [add_block]; exact hn219_2) | exact hn219_2) (.int .i64 ((rd_T33 t201 x9_4).f2))).trans (hw219_2 n_); replace hx219_3 := (cell_far (p := ⟨gb218, 2, none⟩) (by first | (rw [add_block]; exact hn219_2) | (show (Addr.add _ _).block ≠ _; rw [add_block]; exact hn219_2) | exact hn219_2) (.int .i64 ((rd_T33 t201 x9_4).f2))).trans hx219_3; replace hw219_3 := fun (n_ : Nat) => (cell_far (p := ⟨gb218, 2, none⟩) (by first | (rw [add_block]; exact hn219_2) | (show (Addr.add _ _).block ≠ _; rw [add_block]; exact hn219_2) | exact hn219_2) (.int .i64 ((rd_T33 t201 x9_4).f2))).trans (hw219_3 n_); replace hx219_0 := (cell_far (p := ⟨gb218, 3, none⟩) (by first | (rw [add_block]; exact hn219_3) | (show (Addr.add _ _).block ≠ _; rw [add_block]; exact hn219_3) | exact hn219_3) (.string ((rd_T33 t201 x9_4).f3))).trans hx219_0; replace hw219_0 := fun (n_ : Nat) => (cell_far (p := ⟨gb218, 3, none⟩) (by first | (rw [add_block]; exact hn219_3) | (show (Addr.add _ _).block ≠ _; rw [add_block]; exact hn219_3) | exact hn219_3) (.string ((rd_T33 t201 x9_4).f3))).trans (hw219_0 n_); replace hx219_1 := (cell_far (p := ⟨gb218, 3, none⟩) (by first | (rw [add_block]; exact hn219_3) | (show (Addr.add _ _).block ≠ _; rw [add_block]; exact hn219_3) | exact hn219_3) (.string ((rd_T33 t201 x9_4).f3))).trans hx219_1; replace hw219_1 := fun (n_ : Nat) => (cell_far (p := ⟨gb218, 3, none⟩) (by first | (rw [add_block]; exact hn219_3) | (show (Addr.add _ _).block ≠ _; rw [add_block]; exact hn219_3) | exact hn219_3) (.string ((rd_T33 t201 x9_4).f3))).trans (hw219_1 n_); replace hx219_2 := (cell_far (p := ⟨gb218, 3, none⟩) (by first | (rw [add_block]; exact hn219_3) | (show (Addr.add _ _).block ≠ _; rw [add_block]; exact hn219_3) | exact hn219_3) (.string ((rd_T33 t201 x9_4).f3))).trans hx219_2; replace hw219_2 := fun (n_ : Nat) => (cell_far (p := ⟨gb218, 3, none⟩) (by first | (rw [add_block]; exact hn219_3) | (show (Addr.add _ _).block ≠ _; rw [add_block]; exact hn219_3) | exact hn219_3) (.string ((rd_T33 t201 x9_4).f3))).trans (hw219_2 n_); replace hx219_3 := (cell_far (p := ⟨gb218, 3, none⟩) (by first | (rw [add_block]; exact hn219_3) | (show (Addr.add _ _).block ≠ _; rw [add_block]; exact hn219_3) | exact hn219_3) (.string ((rd_T33 t201 x9_4).f3))).trans hx219_3; replace hw219_3 := fun (n_ : Nat) => (cell_far (p := ⟨gb218, 3, none⟩) (by first | (rw [add_block]; exact hn219_3) | (show (Addr.add _ _).block ≠ _; rw [add_block]; exact hn219_3) | exact hn219_3) (.string ((rd_T33 t201 x9_4).f3))).trans (hw219_3 n_); have hy219_0 := hw219_0; have hy219_1 := hw219_1; have hy219_2 := hw219_2; have hy219_3 := hw219_3; clear hn219_0; clear hn219_1; clear hn219_2; clear hn219_3; replace p219 := eq_true p219; replace q219 := eq_true q219) | ((with_reducible refine gate_dst (N := 11) rfl ?_); (try (refine gate_guard (by rfl) ?_; dsimp only)); refine box_event ?hg (N := 11) ?hd (cs := #[.int .i64 0, .int .i64 0, .int .i64 0, .string (⟨#[]⟩ : ByteArray)]) (t := 33) ?hr ?_; (case hd => rfl); (case hg => rfl); (case hr => first | (go_simp; done) | (go_simp; rfl)); intro gb220 hg w57 hbox hb; have n0_ := Aside0.mk (Kd.R_below (by (with_reducible repeat (first | apply Kd.R_alloc | apply Kd.R_drewN | apply Kd.R_drew)); exact (Kd.R_mono (Kd.R_far (p := ⟨gb218, 3, none⟩) (Kd.R_far (p := ⟨gb218, 2, none⟩) (Kd.R_far (p := ⟨gb218, 1, none⟩) (Kd.R_far (p := ⟨gb218, 0, none⟩) (Kd.R_types HO_206000.out BK218.out (by decide)) (fun _ hk => hk.2) (.int .i64 ((rd_T33 t201 x9_4).f0))) (fun _ hk => hk.2) (.int .i64 ((rd_T33 t201 x9_4).f1))) (fun _ hk => hk.2) (.int .i64 ((rd_T33 t201 x9_4).f2))) (fun _ hk => hk.2) (.string ((rd_T33 t201 x9_4).f3))) (fun _ h_ => h_.1))) hb); have n1_ := Aside0.mk (Kd.R_below (Kd.R_elderB (by (with_reducible repeat (first | apply Kd.R_alloc | apply Kd.R_drewN | apply Kd.R_drew)); exact (Kd.R_mono (Kd.R_far (p := ⟨gb218, 3, none⟩) (Kd.R_far (p := ⟨gb218, 2, none⟩) (Kd.R_far (p := ⟨gb218, 1, none⟩) (Kd.R_far (p := ⟨gb218, 0, none⟩) (Kd.R_mono HO_206001.out (fun k_ hk => (⟨hk, hk.2⟩ : _ ∧ k_ ≠ gb218))) (fun _ hk => hk.2) (.int .i64 ((rd_T33 t201 x9_4).f0))) (fun _ hk => hk.2) (.int .i64 ((rd_T33 t201 x9_4).f1))) (fun _ hk => hk.2) (.int .i64 ((rd_T33 t201 x9_4).f2))) (fun _ hk => hk.2) (.string ((rd_T33 t201 x9_4).f3))) (fun _ h_ => h_.1))) gb220 (Nat.le_of_eq hg.symm)) hb); have n2_ := Aside0.mk (Kd.R_below (by (with_reducible repeat (first | apply Kd.R_alloc | apply Kd.R_drewN | apply Kd.R_drew)); exact (Kd.R_mono (Kd.R_far (p := ⟨gb218, 3, none⟩) (Kd.R_far (p := ⟨gb218, 2, none⟩) (Kd.R_far (p := ⟨gb218, 1, none⟩) (Kd.R_far (p := ⟨gb218, 0, none⟩) (Kd.R_types HO_214000.out BK218.out (by decide)) (fun _ hk => hk.2) (.int .i64 ((rd_T33 t201 x9_4).f0))) (fun _ hk => hk.2) (.int .i64 ((rd_T33 t201 x9_4).f1))) (fun _ hk => hk.2) (.int .i64 ((rd_T33 t201 x9_4).f2))) (fun _ hk => hk.2) (.string ((rd_T33 t201 x9_4).f3))) (fun _ h_ => h_.1))) hb); have n3_ := Aside0.mk (Kd.R_below (Kd.R_elderB (by (with_reducible repeat (first | apply Kd.R_alloc | apply Kd.R_drewN | apply Kd.R_drew)); exact (Kd.R_mono (Kd.R_far (p := ⟨gb218, 3, none⟩) (Kd.R_far (p := ⟨gb218, 2, none⟩) (Kd.R_far (p := ⟨gb218, 1, none⟩) (Kd.R_far (p := ⟨gb218, 0, none⟩) (Kd.R_mono HO_214001.out (fun k_ hk => (⟨hk, hk.2⟩ : _ ∧ k_ ≠ gb218))) (fun _ hk => hk.2) (.int .i64 ((rd_T33 t201 x9_4).f0))) (fun _ hk => hk.2) (.int .i64 ((rd_T33 t201 x9_4).f1))) (fun _ hk => hk.2) (.int .i64 ((rd_T33 t201 x9_4).f2))) (fun _ hk => hk.2) (.string ((rd_T33 t201 x9_4).f3))) (fun _ h_ => h_.1))) gb220 (Nat.le_of_eq hg.symm)) hb); have n4_ := Aside0.mk (blk_below (g := gb205) (o := .cells #[.slice Ao13 t198.length co13, .slice (some ad217) t201.length co15] 26 (0, 0)) (by (with_reducible repeat (first | refine blk_drewN ?_ _ | refine blk_drew ?_ | refine blk_alloc ?_ _)); refine blk_far ?_ NB205_218.out _; (with_reducible repeat (first | refine blk_drewN ?_ _ | refine blk_drew ?_ | refine blk_alloc ?_ _)); refine blk_far ?_ NB205_218.out _; (with_reducible repeat (first | refine blk_drewN ?_ _ | refine blk_drew ?_ | refine blk_alloc ?_ _)); refine blk_far ?_ NB205_218.out _; (with_reducible repeat (first | refine blk_drewN ?_ _ | refine blk_drew ?_ | refine blk_alloc ?_ _)); refine blk_far ?_ NB205_218.out _; (with_reducible repeat (first | refine blk_drewN ?_ _ | refine blk_drew ?_ | refine blk_alloc ?_ _)); exact BK205.out) hb); have n5_ := Aside0.mk (blk_below (g := gb213) (o := .cells #[.slice Ao18 t206.length co18, .slice (some ad214) t209.length co21] 26 (0, 0)) (by (with_reducible repeat (first | refine blk_drewN ?_ _ | refine blk_drew ?_ | refine blk_alloc ?_ _)); refine blk_far ?_ NB213_218.out _; (with_reducible repeat (first | refine blk_drewN ?_ _ | refine blk_drew ?_ | refine blk_alloc ?_ _)); refine blk_far ?_ NB213_218.out _; (with_reducible repeat (first | refine blk_drewN ?_ _ | refine blk_drew ?_ | refine blk_alloc ?_ _)); refine blk_far ?_ NB213_218.out _; (with_reducible repeat (first | refine blk_drewN ?_ _ | refine blk_drew ?_ | refine blk_alloc ?_ _)); refine blk_far ?_ NB213_218.out _; (with_reducible repeat (first | refine blk_drewN ?_ _ | refine blk_drew ?_ | refine blk_alloc ?_ _)); exact BK213.out) hb); have n6_ := Aside0.mk (blk_below (g := gb218) (o := .cells #[.int .i64 ((rd_T33 t201 x9_4).f0), .int .i64 ((rd_T33 t201 x9_4).f1), .int .i64 ((rd_T33 t201 x9_4).f2), .string ((rd_T33 t201 x9_4).f3)] 33 (0, 0)) (by (with_reducible repeat (first | refine blk_drewN ?_ _ | refine blk_drew ?_ | refine blk_alloc ?_ _)); refine blk_put (cs := #[.int .i64 ((rd_T33 t201 x9_4).f0), .int .i64 ((rd_T33 t201 x9_4).f1), .int .i64 ((rd_T33 t201 x9_4).f2), .string (⟨#[]⟩ : ByteArray)]) ?_ 3 _ rfl; (with_reducible repeat (first | refine blk_drewN ?_ _ | refine blk_drew ?_ | refine blk_alloc ?_ _)); refine blk_put (cs := #[.int .i64 ((rd_T33 t201 x9_4).f0), .int .i64 ((rd_T33 t201 x9_4).f1), .int .i64 0, .string (⟨#[]⟩ : ByteArray)]) ?_ 2 _ rfl; (with_reducible repeat (first | refine blk_drewN ?_ _ | refine blk_drew ?_ | refine blk_alloc ?_ _)); refine blk_put (cs := #[.int .i64 ((rd_T33 t201 x9_4).f0), .int .i64 0, .int .i64 0, .string (⟨#[]⟩ : ByteArray)]) ?_ 1 _ rfl; (with_reducible repeat (first | refine blk_drewN ?_ _ | refine blk_drew ?_ | refine blk_alloc ?_ _)); refine blk_put (cs := #[.int .i64 0, .int .i64 0, .int .i64 0, .string (⟨#[]⟩ : ByteArray)]) ?_ 0 _ rfl; (with_reducible repeat (first | refine blk_drewN ?_ _ | refine blk_drew ?_ | refine blk_alloc ?_ _)); exact BK218.out) hb); have n7_ := Aside0.mk (below_step (by repeat (first | (with_reducible first | exact HB.out | apply below_alloc | apply pw_below_drewN | apply below_drew1 | refine below_set ?_ GE205.out | refine below_set ?_ GE213.out | refine below_set ?_ GE218.out) | exact HB.out)) hb); have n8_ := Aside0.mk (hbox); have n9_ := Aside0.mk ((by rw [hg]; exact (below_size (by repeat (first | (with_reducible first | exact HB.out | apply below_alloc | apply pw_below_drewN | apply below_drew1 | refine below_set ?_ GE205.out | refine below_set ?_ GE213.out | refine below_set ?_ GE218.out) | exact HB.out))) : w.heap.size ≤ gb220)); have n10_ := Aside0.mk ((by rw [hg]; exact (below_size (by repeat (first | (with_reducible first | exact HB.out | apply below_alloc | apply pw_below_drewN | apply below_drew1 | refine below_set ?_ GE205.out | refine below_set ?_ GE213.out | refine below_set ?_ GE218.out) | exact HB.out))) : w.heap.size ≤ gb220)); have n11_ := Aside0.mk ((by rw [hg]; exact Nat.ne_of_lt (blk_lt (g := gb205) (o := .cells #[.slice Ao13 t198.length co13, .slice (some ad217) t201.length co15] 26 (0, 0)) (by (with_reducible repeat (first | refine blk_drewN ?_ _ | refine blk_drew ?_ | refine blk_alloc ?_ _)); refine blk_far ?_ NB205_218.out _; (with_reducible repeat (first | refine blk_drewN ?_ _ | refine blk_drew ?_ | refine blk_alloc ?_ _)); refine blk_far ?_ NB205_218.out _; (with_reducible repeat (first | refine blk_drewN ?_ _ | refine blk_drew ?_ | refine blk_alloc ?_ _)); refine blk_far ?_ NB205_218.out _; (with_reducible repeat (first | refine blk_drewN ?_ _ | refine blk_drew ?_ | refine blk_alloc ?_ _)); refine blk_far ?_ NB205_218.out _; (with_reducible repeat (first | refine blk_drewN ?_ _ | refine blk_drew ?_ | refine blk_alloc ?_ _)); exact BK205.out)) : gb205 ≠ gb220)); have n12_ := Aside0.mk ((by rw [hg]; exact Nat.ne_of_gt (blk_lt (g := gb205) (o := .cells #[.slice Ao13 t198.length co13, .slice (some ad217) t201.length co15] 26 (0, 0)) (by (with_reducible repeat (first | refine blk_drewN ?_ _ | refine blk_drew ?_ | refine blk_alloc ?_ _)); refine blk_far ?_ NB205_218.out _; (with_reducible repeat (first | refine blk_drewN ?_ _ | refine blk_drew ?_ | refine blk_alloc ?_ _)); refine blk_far ?_ NB205_218.out _; (with_reducible repeat (first | refine blk_drewN ?_ _ | refine blk_drew ?_ | refine blk_alloc ?_ _)); refine blk_far ?_ NB205_218.out _; (with_reducible repeat (first | refine blk_drewN ?_ _ | refine blk_drew ?_ | refine blk_alloc ?_ _)); refine blk_far ?_ NB205_218.out _; (with_reducible repeat (first | refine blk_drewN ?_ _ | refine blk_drew ?_ | refine blk_alloc ?_ _)); exact BK205.out)) : gb220 ≠ gb205)); have n13_ := Aside0.mk ((by rw [hg]; exact Nat.ne_of_lt (blk_lt (g := gb213) (o := .cells #[.slice Ao18 t206.length co18, .slice (some ad214) t209.length co21] 26 (0, 0)) (by (with_reducible repeat (first | refine blk_drewN ?_ _ | refine blk_drew ?_ | refine blk_alloc ?_ _)); refine blk_far ?_ NB213_218.out _; (with_reducible repeat (first | refine blk_drewN ?_ _ | refine blk_drew ?_ | refine blk_alloc ?_ _)); refine blk_far ?_ NB213_218.out _; (with_reducible repeat (first | refine blk_drewN ?_ _ | refine blk_drew ?_ | refine blk_alloc ?_ _)); refine blk_far ?_ NB213_218.out _; (with_reducible repeat (first | refine blk_drewN ?_ _ | refine blk_drew ?_ | refine blk_alloc ?_ _)); refine blk_far ?_ NB213_218.out _; (with_reducible repeat (first | refine blk_drewN ?_ _ | refine blk_drew ?_ | refine blk_alloc ?_ _)); exact BK213.out)) : gb213 ≠ gb220)); have n14_ := Aside0.mk ((by rw [hg]; exact Nat.ne_of_gt (blk_lt (g := gb213) (o := .cells #[.slice Ao18 t206.length co18, .slice (some ad214) t209.length co21] 26 (0, 0)) (by (with_reducible repeat (first | refine blk_drewN ?_ _ | refine blk_drew ?_ | refine blk_alloc ?_ _)); refine blk_far ?_ NB213_218.out _; (with_reducible repeat (first | refine blk_drewN ?_ _ | refine blk_drew ?_ | refine blk_alloc ?_ _)); refine blk_far ?_ NB213_218.out _; (with_reducible repeat (first | refine blk_drewN ?_ _ | refine blk_drew ?_ | refine blk_alloc ?_ _)); refine blk_far ?_ NB213_218.out _; (with_reducible repeat (first | refine blk_drewN ?_ _ | refine blk_drew ?_ | refine blk_alloc ?_ _)); refine blk_far ?_ NB213_218.out _; (with_reducible repeat (first | refine blk_drewN ?_ _ | refine blk_drew ?_ | refine blk_alloc ?_ _)); exact BK213.out)) : gb220 ≠ gb213)); have n15_ := Aside0.mk ((by rw [hg]; exact Nat.ne_of_lt (blk_lt (g := gb218) (o := .cells #[.int .i64 ((rd_T33 t201 x9_4).f0), .int .i64 ((rd_T33 t201 x9_4).f1), .int .i64 ((rd_T33 t201 x9_4).f2), .string ((rd_T33 t201 x9_4).f3)] 33 (0, 0)) (by (with_reducible repeat (first | refine blk_drewN ?_ _ | refine blk_drew ?_ | refine blk_alloc ?_ _)); refine blk_put (cs := #[.int .i64 ((rd_T33 t201 x9_4).f0), .int .i64 ((rd_T33 t201 x9_4).f1), .int .i64 ((rd_T33 t201 x9_4).f2), .string (⟨#[]⟩ : ByteArray)]) ?_ 3 _ rfl; (with_reducible repeat (first | refine blk_drewN ?_ _ | refine blk_drew ?_ | refine blk_alloc ?_ _)); refine blk_put (cs := #[.int .i64 ((rd_T33 t201 x9_4).f0), .int .i64 ((rd_T33 t201 x9_4).f1), .int .i64 0, .string (⟨#[]⟩ : ByteArray)]) ?_ 2 _ rfl; (with_reducible repeat (first | refine blk_drewN ?_ _ | refine blk_drew ?_ | refine blk_alloc ?_ _)); refine blk_put (cs := #[.int .i64 ((rd_T33 t201 x9_4).f0), .int .i64 0, .int .i64 0, .string (⟨#[]⟩ : ByteArray)]) ?_ 1 _ rfl; (with_reducible repeat (first | refine blk_drewN ?_ _ | refine blk_drew ?_ | refine blk_alloc ?_ _)); refine blk_put (cs := #[.int .i64 0, .int .i64 0, .int .i64 0, .string (⟨#[]⟩ : ByteArray)]) ?_ 0 _ rfl; (with_reducible repeat (first | refine blk_drewN ?_ _ | refine blk_drew ?_ | refine blk_alloc ?_ _)); exact BK218.out)) : gb218 ≠ gb220)); have n16_ := Aside0.mk ((by rw [hg]; exact Nat.ne_of_gt (blk_lt (g := gb218) (o := .cells #[.int .i64 ((rd_T33 t201 x9_4).f0), .int .i64 ((rd_T33 t201 x9_4).f1), .int .i64 ((rd_T33 t201 x9_4).f2), .string ((rd_T33 t201 x9_4).f3)] 33 (0, 0)) (by (with_reducible repeat (first | refine blk_drewN ?_ _ | refine blk_drew ?_ | refine blk_alloc ?_ _)); refine blk_put (cs := #[.int .i64 ((rd_T33 t201 x9_4).f0), .int .i64 ((rd_T33 t201 x9_4).f1), .int .i64 ((rd_T33 t201 x9_4).f2), .string (⟨#[]⟩ : ByteArray)]) ?_ 3 _ rfl; (with_reducible repeat (first | refine blk_drewN ?_ _ | refine blk_drew ?_ | refine blk_alloc ?_ _)); refine blk_put (cs := #[.int .i64 ((rd_T33 t201 x9_4).f0), .int .i64 ((rd_T33 t201 x9_4).f1), .int .i64 0, .string (⟨#[]⟩ : ByteArray)]) ?_ 2 _ rfl; (with_reducible repeat (first | refine blk_drewN ?_ _ | refine blk_drew ?_ | refine blk_alloc ?_ _)); refine blk_put (cs := #[.int .i64 ((rd_T33 t201 x9_4).f0), .int .i64 0, .int .i64 0, .string (⟨#[]⟩ : ByteArray)]) ?_ 1 _ rfl; (with_reducible repeat (first | refine blk_drewN ?_ _ | refine blk_drew ?_ | refine blk_alloc ?_ _)); refine blk_put (cs := #[.int .i64 0, .int .i64 0, .int .i64 0, .string (⟨#[]⟩ : ByteArray)]) ?_ 0 _ rfl; (with_reducible repeat (first | refine blk_drewN ?_ _ | refine blk_drew ?_ | refine blk_alloc ?_ _)); exact BK218.out)) : gb220 ≠ gb218)); clear HO_206000; clear HO_206001; clear HO_214000; clear HO_214001; clear BK205; clear BK213; clear BK218; clear HB; have HO_206000 := n0_; have HO_206001 := n1_; have HO_214000 := n2_; have HO_214001 := n3_; have BK205 := n4_; have BK213 := n5_; have BK218 := n6_; have HB := n7_; have BK220 := n8_; have GW220 := n9_; have GE220 := n10_; have NB205_220 := n11_; have NB220_205 := n12_; have NB213_220 := n13_; have NB220_213 := n14_; have NB218_220 := n15_; have NB220_218 := n16_; clear n0_ n1_ n2_ n3_ n4_ n5_ n6_ n7_ n8_ n9_ n10_ n11_ n12_ n13_ n14_ n15_ n16_; clear hb hbox hg; have hnb58 := NB220_205.out; have hnc58 := NB205_220.out; have hnb59 := NB220_213.out; have hnc59 := NB213_220.out; have hnb60 := NB220_218.out; have hnc60 := NB218_220.out; have hcz61_0 : w57.cell? ⟨gb220, 0, none⟩ = some (.int .i64 0) := (blk_cell BK220.out 0).trans rfl; have hcz61_1 : w57.cell? ⟨gb220, 1, none⟩ = some (.int .i64 0) := (blk_cell BK220.out 1).trans rfl; have hcz61_2 : w57.cell? ⟨gb220, 2, none⟩ = some (.int .i64 0) := (blk_cell BK220.out 2).trans rfl; have hcz61_3 : w57.cell? ⟨gb220, 3, none⟩ = some (.string (⟨#[]⟩ : ByteArray)) := (blk_cell BK220.out 3).trans rfl; have hfz61_0 := blk_frozen BK220.out 0; have hfz61_1 := blk_frozen BK220.out 1; have hfz61_2 := blk_frozen BK220.out 2; have hfz61_3 := blk_frozen BK220.out 3))
                                      repeat (go_quiet (first | ((with_reducible refine gate_dst (N := 10) rfl ?_); (try (refine gate_guard (by rfl) ?_; dsimp only)); refine box_event ?hg (N := 10) ?hd (cs := #[.int .i64 0, .int .i64 0, .int .i64 0, .string (⟨#[]⟩ : ByteArray)]) (t := 33) ?hr ?_; (case hd => rfl); (case hg => rfl); (case hr => first | (go_simp; done) | (go_simp; rfl)); intro gb218 hg w52 hbox hb; have n0_ := Aside0.mk (Kd.R_below (by (with_reducible repeat (first | apply Kd.R_alloc | apply Kd.R_drewN | apply Kd.R_drew)); exact HO_206000.out) hb); have n1_ := Aside0.mk (Kd.R_below (Kd.R_elderB (by (with_reducible repeat (first | apply Kd.R_alloc | apply Kd.R_drewN | apply Kd.R_drew)); exact HO_206001.out) gb218 (Nat.le_of_eq hg.symm)) hb); have n2_ := Aside0.mk (Kd.R_below (by (with_reducible repeat (first | apply Kd.R_alloc | apply Kd.R_drewN | apply Kd.R_drew)); exact HO_214000.out) hb); have n3_ := Aside0.mk (Kd.R_below (Kd.R_elderB (by (with_reducible repeat (first | apply Kd.R_alloc | apply Kd.R_drewN | apply Kd.R_drew)); exact HO_214001.out) gb218 (Nat.le_of_eq hg.symm)) hb); have n4_ := Aside0.mk (blk_below (g := gb205) (o := .cells #[.slice Ao13 t198.length co13, .slice (some ad217) t201.length co15] 26 (0, 0)) (by (with_reducible repeat (first | refine blk_drewN ?_ _ | refine blk_drew ?_ | refine blk_alloc ?_ _)); exact BK205.out) hb); have n5_ := Aside0.mk (blk_below (g := gb213) (o := .cells #[.slice Ao18 t206.length co18, .slice (some ad214) t209.length co21] 26 (0, 0)) (by (with_reducible repeat (first | refine blk_drewN ?_ _ | refine blk_drew ?_ | refine blk_alloc ?_ _)); exact BK213.out) hb); have n6_ := Aside0.mk (below_step (by repeat (first | (with_reducible first | exact HB.out | apply below_alloc | apply pw_below_drewN | apply below_drew1 | refine below_set ?_ GE205.out | refine below_set ?_ GE213.out) | exact HB.out)) hb); have n7_ := Aside0.mk (hbox); have n8_ := Aside0.mk ((by rw [hg]; exact (below_size (by repeat (first | (with_reducible first | exact HB.out | apply below_alloc | apply pw_below_drewN | apply below_drew1 | refine below_set ?_ GE205.out | refine below_set ?_ GE213.out) | exact HB.out))) : w.heap.size ≤ gb218)); have n9_ := Aside0.mk ((by rw [hg]; exact (below_size (by repeat (first | (with_reducible first | exact HB.out | apply below_alloc | apply pw_below_drewN | apply below_drew1 | refine below_set ?_ GE205.out | refine below_set ?_ GE213.out) | exact HB.out))) : w.heap.size ≤ gb218)); have n10_ := Aside0.mk ((by rw [hg]; exact Nat.ne_of_lt (blk_lt (g := gb205) (o := .cells #[.slice Ao13 t198.length co13, .slice (some ad217) t201.length co15] 26 (0, 0)) (by (with_reducible repeat (first | refine blk_drewN ?_ _ | refine blk_drew ?_ | refine blk_alloc ?_ _)); exact BK205.out)) : gb205 ≠ gb218)); have n11_ := Aside0.mk ((by rw [hg]; exact Nat.ne_of_gt (blk_lt (g := gb205) (o := .cells #[.slice Ao13 t198.length co13, .slice (some ad217) t201.length co15] 26 (0, 0)) (by (with_reducible repeat (first | refine blk_drewN ?_ _ | refine blk_drew ?_ | refine blk_alloc ?_ _)); exact BK205.out)) : gb218 ≠ gb205)); have n12_ := Aside0.mk ((by rw [hg]; exact Nat.ne_of_lt (blk_lt (g := gb213) (o := .cells #[.slice Ao18 t206.length co18, .slice (some ad214) t209.length co21] 26 (0, 0)) (by (with_reducible repeat (first | refine blk_drewN ?_ _ | refine blk_drew ?_ | refine blk_alloc ?_ _)); exact BK213.out)) : gb213 ≠ gb218)); have n13_ := Aside0.mk ((by rw [hg]; exact Nat.ne_of_gt (blk_lt (g := gb213) (o := .cells #[.slice Ao18 t206.length co18, .slice (some ad214) t209.length co21] 26 (0, 0)) (by (with_reducible repeat (first | refine blk_drewN ?_ _ | refine blk_drew ?_ | refine blk_alloc ?_ _)); exact BK213.out)) : gb218 ≠ gb213)); clear HO_206000; clear HO_206001; clear HO_214000; clear HO_214001; clear BK205; clear BK213; clear HB; have HO_206000 := n0_; have HO_206001 := n1_; have HO_214000 := n2_; have HO_214001 := n3_; have BK205 := n4_; have BK213 := n5_; have HB := n6_; have BK218 := n7_; have GW218 := n8_; have GE218 := n9_; have NB205_218 := n10_; have NB218_205 := n11_; have NB213_218 := n12_; have NB218_213 := n13_; clear n0_ n1_ n2_ n3_ n4_ n5_ n6_ n7_ n8_ n9_ n10_ n11_ n12_ n13_; clear hb hbox hg; have hnb53 := NB218_205.out; have hnc53 := NB205_218.out; have hnb54 := NB218_213.out; have hnc54 := NB213_218.out; have hcz55_0 : w52.cell? ⟨gb218, 0, none⟩ = some (.int .i64 0) := (blk_cell BK218.out 0).trans rfl; have hcz55_1 : w52.cell? ⟨gb218, 1, none⟩ = some (.int .i64 0) := (blk_cell BK218.out 1).trans rfl; have hcz55_2 : w52.cell? ⟨gb218, 2, none⟩ = some (.int .i64 0) := (blk_cell BK218.out 2).trans rfl; have hcz55_3 : w52.cell? ⟨gb218, 3, none⟩ = some (.string (⟨#[]⟩ : ByteArray)) := (blk_cell BK218.out 3).trans rfl; have hfz55_0 := blk_frozen BK218.out 0; have hfz55_1 := blk_frozen BK218.out 1; have hfz55_2 := blk_frozen BK218.out 2; have hfz55_3 := blk_frozen BK218.out 3; have hcz56_0 : w52.cell? ⟨gb213, 0, none⟩ = some (.slice Ao18 t206.length co18) := (blk_cell BK213.out 0).trans rfl; have hcz56_1 : w52.cell? ⟨gb213, 1, none⟩ = some (.slice (some ad214) t209.length co21) := (blk_cell BK213.out 1).trans rfl; have hfz56_0 := blk_frozen BK213.out 0; have hfz56_1 := blk_frozen BK213.out 1; have p219 : 0 ≤ ((ji46) : Int) := of_decide_eq_true (by first | (with_reducible assumption) | assumption); have q219 : (ji46) < (t209.length : Int) := of_decide_eq_true (by first | (with_reducible assumption) | assumption); obtain ⟨ad219, e219, hx219_0, hx219_1, hx219_2, hx219_3⟩ := at_T33 (Kd.R_reads' HO_214001.out).2.2 (ji46) p219 q219; obtain rfl : ad214 = ad219 := (by injection e219); have hn219_0 : ad214.block ≠ gb218 := (by first | exact Kd.own_blk (Kd.R_ne HO_214001.out BK218.out (by decide)) | exact Kd.own_blk (fun e_ => (HO_214001.out.1 _ e_.symm).2 rfl) | exact Kd.own_blk (fun e_ => (HO_214001.out.1 _ e_.symm).1.2 rfl)); have hn219_1 : ad214.block ≠ gb218 := (by first | exact Kd.own_blk (Kd.R_ne HO_214001.out BK218.out (by decide)) | exact Kd.own_blk (fun e_ => (HO_214001.out.1 _ e_.symm).2 rfl) | exact Kd.own_blk (fun e_ => (HO_214001.out.1 _ e_.symm).1.2 rfl)); have hn219_2 : ad214.block ≠ gb218 := (by first | exact Kd.own_blk (Kd.R_ne HO_214001.out BK218.out (by decide)) | exact Kd.own_blk (fun e_ => (HO_214001.out.1 _ e_.symm).2 rfl) | exact Kd.own_blk (fun e_ => (HO_214001.out.1 _ e_.symm).1.2 rfl)); have hn219_3 : ad214.block ≠ gb218 := (by first | exact Kd.own_blk (Kd.R_ne HO_214001.out BK218.out (by decide)) | exact Kd.own_blk (fun e_ => (HO_214001.out.1 _ e_.symm).2 rfl) | exact Kd.own_blk (fun e_ => (HO_214001.out.1 _ e_.symm).1.2 rfl)); have hw219_0 := fun (n_ : Nat) => (show (w52.drewN n_).cell? _ = some _ from hx219_0); replace hx219_0 := (cell_far (p := ⟨gb218, 0, none⟩) (by first | (rw [add_block]; exact hn219_0) | (show (Addr.add _ _).block ≠ _; rw [add_block]; exact hn219_0) | exact hn219_0) (.int .i64 ((rd_T33 t201 x9_4).f0))).trans hx219_0; replace hw219_0 := fun (n_ : Nat) => (cell_far (p := ⟨gb218, 0, none⟩) (by first | (rw [add_block]; exact hn219_0) | (show (Addr.add _ _).block ≠ _; rw [add_block]; exact hn219_0) | exact hn219_0) (.int .i64 ((rd_T33 t201 x9_4).f0))).trans (hw219_0 n_); have hw219_1 := fun (n_ : Nat) => (show (w52.drewN n_).cell? _ = some _ from hx219_1); replace hx219_1 := (cell_far (p := ⟨gb218, 0, none⟩) (by first | (rw [add_block]; exact hn219_0) | (show (Addr.add _ _).block ≠ _; rw [add_block]; exact hn219_0) | exact hn219_0) (.int .i64 ((rd_T33 t201 x9_4).f0))).trans hx219_1; replace hw219_1 := fun (n_ : Nat) => (cell_far (p := ⟨gb218, 0, none⟩) (by first | (rw [add_block]; exact hn219_0) | (show (Addr.add _ _).block ≠ _; rw [add_block]; exact hn219_0) | exact hn219_0) (.int .i64 ((rd_T33 t201 x9_4).f0))).trans (hw219_1 n_); have hw219_2 := fun (n_ : Nat) => (show (w52.drewN n_).cell? _ = some _ from hx219_2); replace hx219_2 := (cell_far (p := ⟨gb218, 0, none⟩) (by first | (rw [add_block]; exact hn219_0) | (show (Addr.add _ _).block ≠ _; rw [add_block]; exact hn219_0) | exact hn219_0) (.int .i64 ((rd_T33 t201 x9_4).f0))).trans hx219_2; replace hw219_2 := fun (n_ : Nat) => (cell_far (p := ⟨gb218, 0, none⟩) (by first | (rw [add_block]; exact hn219_0) | (show (Addr.add _ _).block ≠ _; rw [add_block]; exact hn219_0) | exact hn219_0) (.int .i64 ((rd_T33 t201 x9_4).f0))).trans (hw219_2 n_); have hw219_3 := fun (n_ : Nat) => (show (w52.drewN n_).cell? _ = some _ from hx219_3); replace hx219_3 := (cell_far (p := ⟨gb218, 0, none⟩) (by first | (rw [add_block]; exact hn219_0) | (show (Addr.add _ _).block ≠ _; rw [add_block]; exact hn219_0) | exact hn219_0) (.int .i64 ((rd_T33 t201 x9_4).f0))).trans hx219_3; replace hw219_3 := fun (n_ : Nat) => (cell_far (p := ⟨gb218, 0, none⟩) (by first | (rw [add_block]; exact hn219_0) | (show (Addr.add _ _).block ≠ _; rw [add_block]; exact hn219_0) | exact hn219_0) (.int .i64 ((rd_T33 t201 x9_4).f0))).trans (hw219_3 n_); replace hx219_0 := (cell_far (p := ⟨gb218, 1, none⟩) (by first | (rw [add_block]; exact hn219_1) | (show (Addr.add _ _).block ≠ _; rw [add_block]; exact hn219_1) | exact hn219_1) (.int .i64 ((rd_T33 t201 x9_4).f1))).trans hx219_0; replace hw219_0 := fun (n_ : Nat) => (cell_far (p := ⟨gb218, 1, none⟩) (by first | (rw [add_block]; exact hn219_1) | (show (Addr.add _ _).block ≠ _; rw [add_block]; exact hn219_1) | exact hn219_1) (.int .i64 ((rd_T33 t201 x9_4).f1))).trans (hw219_0 n_); replace hx219_1 := (cell_far (p := ⟨gb218, 1, none⟩) (by first | (rw [add_block]; exact hn219_1) | (show (Addr.add _ _).block ≠ _; rw [add_block]; exact hn219_1) | exact hn219_1) (.int .i64 ((rd_T33 t201 x9_4).f1))).trans hx219_1; replace hw219_1 := fun (n_ : Nat) => (cell_far (p := ⟨gb218, 1, none⟩) (by first | (rw [add_block]; exact hn219_1) | (show (Addr.add _ _).block ≠ _; rw [add_block]; exact hn219_1) | exact hn219_1) (.int .i64 ((rd_T33 t201 x9_4).f1))).trans (hw219_1 n_); replace hx219_2 := (cell_far (p := ⟨gb218, 1, none⟩) (by first | (rw [add_block]; exact hn219_1) | (show (Addr.add _ _).block ≠ _; rw [add_block]; exact hn219_1) | exact hn219_1) (.int .i64 ((rd_T33 t201 x9_4).f1))).trans hx219_2; replace hw219_2 := fun (n_ : Nat) => (cell_far (p := ⟨gb218, 1, none⟩) (by first | (rw [add_block]; exact hn219_1) | (show (Addr.add _ _).block ≠ _; rw [add_block]; exact hn219_1) | exact hn219_1) (.int .i64 ((rd_T33 t201 x9_4).f1))).trans (hw219_2 n_); replace hx219_3 := (cell_far (p := ⟨gb218, 1, none⟩) (by first | (rw [add_block]; exact hn219_1) | (show (Addr.add _ _).block ≠ _; rw [add_block]; exact hn219_1) | exact hn219_1) (.int .i64 ((rd_T33 t201 x9_4).f1))).trans hx219_3; replace hw219_3 := fun (n_ : Nat) => (cell_far (p := ⟨gb218, 1, none⟩) (by first | (rw [add_block]; exact hn219_1) | (show (Addr.add _ _).block ≠ _; rw [add_block]; exact hn219_1) | exact hn219_1) (.int .i64 ((rd_T33 t201 x9_4).f1))).trans (hw219_3 n_); replace hx219_0 := (cell_far (p := ⟨gb218, 2, none⟩) (by first | (rw [add_block]; exact hn219_2) | (show (Addr.add _ _).block ≠ _; rw [add_block]; exact hn219_2) | exact hn219_2) (.int .i64 ((rd_T33 t201 x9_4).f2))).trans hx219_0; replace hw219_0 := fun (n_ : Nat) => (cell_far (p := ⟨gb218, 2, none⟩) (by first | (rw [add_block]; exact hn219_2) | (show (Addr.add _ _).block ≠ _; rw [add_block]; exact hn219_2) | exact hn219_2) (.int .i64 ((rd_T33 t201 x9_4).f2))).trans (hw219_0 n_); replace hx219_1 := (cell_far (p := ⟨gb218, 2, none⟩) (by first | (rw [add_block]; exact hn219_2) | (show (Addr.add _ _).block ≠ _; rw [add_block]; exact hn219_2) | exact hn219_2) (.int .i64 ((rd_T33 t201 x9_4).f2))).trans hx219_1; replace hw219_1 := fun (n_ : Nat) => (cell_far (p := ⟨gb218, 2, none⟩) (by first | (rw [add_block]; exact hn219_2) | (show (Addr.add _ _).block ≠ _; rw [add_block]; exact hn219_2) | exact hn219_2) (.int .i64 ((rd_T33 t201 x9_4).f2))).trans (hw219_1 n_); replace hx219_2 := (cell_far (p := ⟨gb218, 2, none⟩) (by first | (rw [add_block]; exact hn219_2) | (show (Addr.add _ _).block ≠ _; rw [add_block]; exact hn219_2) | exact hn219_2) (.int .i64 ((rd_T33 t201 x9_4).f2))).trans hx219_2; replace hw219_2 := fun (n_ : Nat) => (cell_far (p := ⟨gb218, 2, none⟩) (by first | (rw [add_block]; exact hn219_2) | (show (Addr.add _ _).block ≠ _; rw [add_block]; exact hn219_2) | exact hn219_2) (.int .i64 ((rd_T33 t201 x9_4).f2))).trans (hw219_2 n_); replace hx219_3 := (cell_far (p := ⟨gb218, 2, none⟩) (by first | (rw [add_block]; exact hn219_2) | (show (Addr.add _ _).block ≠ _; rw [add_block]; exact hn219_2) | exact hn219_2) (.int .i64 ((rd_T33 t201 x9_4).f2))).trans hx219_3; replace hw219_3 := fun (n_ : Nat) => (cell_far (p := ⟨gb218, 2, none⟩) (by first | (rw [add_block]; exact hn219_2) | (show (Addr.add _ _).block ≠ _; rw [add_block]; exact hn219_2) | exact hn219_2) (.int .i64 ((rd_T33 t201 x9_4).f2))).trans (hw219_3 n_); replace hx219_0 := (cell_far (p := ⟨gb218, 3, none⟩) (by first | (rw [add_block]; exact hn219_3) | (show (Addr.add _ _).block ≠ _; rw [add_block]; exact hn219_3) | exact hn219_3) (.string ((rd_T33 t201 x9_4).f3))).trans hx219_0; replace hw219_0 := fun (n_ : Nat) => (cell_far (p := ⟨gb218, 3, none⟩) (by first | (rw [add_block]; exact hn219_3) | (show (Addr.add _ _).block ≠ _; rw [add_block]; exact hn219_3) | exact hn219_3) (.string ((rd_T33 t201 x9_4).f3))).trans (hw219_0 n_); replace hx219_1 := (cell_far (p := ⟨gb218, 3, none⟩) (by first | (rw [add_block]; exact hn219_3) | (show (Addr.add _ _).block ≠ _; rw [add_block]; exact hn219_3) | exact hn219_3) (.string ((rd_T33 t201 x9_4).f3))).trans hx219_1; replace hw219_1 := fun (n_ : Nat) => (cell_far (p := ⟨gb218, 3, none⟩) (by first | (rw [add_block]; exact hn219_3) | (show (Addr.add _ _).block ≠ _; rw [add_block]; exact hn219_3) | exact hn219_3) (.string ((rd_T33 t201 x9_4).f3))).trans (hw219_1 n_); replace hx219_2 := (cell_far (p := ⟨gb218, 3, none⟩) (by first | (rw [add_block]; exact hn219_3) | (show (Addr.add _ _).block ≠ _; rw [add_block]; exact hn219_3) | exact hn219_3) (.string ((rd_T33 t201 x9_4).f3))).trans hx219_2; replace hw219_2 := fun (n_ : Nat) => (cell_far (p := ⟨gb218, 3, none⟩) (by first | (rw [add_block]; exact hn219_3) | (show (Addr.add _ _).block ≠ _; rw [add_block]; exact hn219_3) | exact hn219_3) (.string ((rd_T33 t201 x9_4).f3))).trans (hw219_2 n_); replace hx219_3 := (cell_far (p := ⟨gb218, 3, none⟩) (by first | (rw [add_block]; exact hn219_3) | (show (Addr.add _ _).block ≠ _; rw [add_block]; exact hn219_3) | exact hn219_3) (.string ((rd_T33 t201 x9_4).f3))).trans hx219_3; replace hw219_3 := fun (n_ : Nat) => (cell_far (p := ⟨gb218, 3, none⟩) (by first | (rw [add_block]; exact hn219_3) | (show (Addr.add _ _).block ≠ _; rw [add_block]; exact hn219_3) | exact hn219_3) (.string ((rd_T33 t201 x9_4).f3))).trans (hw219_3 n_); have hy219_0 := hw219_0; have hy219_1 := hw219_1; have hy219_2 := hw219_2; have hy219_3 := hw219_3; clear hn219_0; clear hn219_1; clear hn219_2; clear hn219_3; replace p219 := eq_true p219; replace q219 := eq_true q219) | ((with_reducible refine gate_dst (N := 11) rfl ?_); (try (refine gate_guard (by rfl) ?_; dsimp only)); refine box_event ?hg (N := 11) ?hd (cs := #[.int .i64 0, .int .i64 0, .int .i64 0, .string (⟨#[]⟩ : ByteArray)]) (t := 33) ?hr ?_; (case hd => rfl); (case hg => rfl); (case hr => first | (go_simp; done) | (go_simp; rfl)); intro gb220 hg w57 hbox hb; have n0_ := Aside0.mk (Kd.R_below (by (with_reducible repeat (first | apply Kd.R_alloc | apply Kd.R_drewN | apply Kd.R_drew)); exact (Kd.R_mono (Kd.R_far (p := ⟨gb218, 3, none⟩) (Kd.R_far (p := ⟨gb218, 2, none⟩) (Kd.R_far (p := ⟨gb218, 1, none⟩) (Kd.R_far (p := ⟨gb218, 0, none⟩) (Kd.R_types HO_206000.out BK218.out (by decide)) (fun _ hk => hk.2) (.int .i64 ((rd_T33 t201 x9_4).f0))) (fun _ hk => hk.2) (.int .i64 ((rd_T33 t201 x9_4).f1))) (fun _ hk => hk.2) (.int .i64 ((rd_T33 t201 x9_4).f2))) (fun _ hk => hk.2) (.string ((rd_T33 t201 x9_4).f3))) (fun _ h_ => h_.1))) hb); have n1_ := Aside0.mk (Kd.R_below (Kd.R_elderB (by (with_reducible repeat (first | apply Kd.R_alloc | apply Kd.R_drewN | apply Kd.R_drew)); exact (Kd.R_mono (Kd.R_far (p := ⟨gb218, 3, none⟩) (Kd.R_far (p := ⟨gb218, 2, none⟩) (Kd.R_far (p := ⟨gb218, 1, none⟩) (Kd.R_far (p := ⟨gb218, 0, none⟩) (Kd.R_mono HO_206001.out (fun k_ hk => (⟨hk, hk.2⟩ : _ ∧ k_ ≠ gb218))) (fun _ hk => hk.2) (.int .i64 ((rd_T33 t201 x9_4).f0))) (fun _ hk => hk.2) (.int .i64 ((rd_T33 t201 x9_4).f1))) (fun _ hk => hk.2) (.int .i64 ((rd_T33 t201 x9_4).f2))) (fun _ hk => hk.2) (.string ((rd_T33 t201 x9_4).f3))) (fun _ h_ => h_.1))) gb220 (Nat.le_of_eq hg.symm)) hb); have n2_ := Aside0.mk (Kd.R_below (by (with_reducible repeat (first | apply Kd.R_alloc | apply Kd.R_drewN | apply Kd.R_drew)); exact (Kd.R_mono (Kd.R_far (p := ⟨gb218, 3, none⟩) (Kd.R_far (p := ⟨gb218, 2, none⟩) (Kd.R_far (p := ⟨gb218, 1, none⟩) (Kd.R_far (p := ⟨gb218, 0, none⟩) (Kd.R_types HO_214000.out BK218.out (by decide)) (fun _ hk => hk.2) (.int .i64 ((rd_T33 t201 x9_4).f0))) (fun _ hk => hk.2) (.int .i64 ((rd_T33 t201 x9_4).f1))) (fun _ hk => hk.2) (.int .i64 ((rd_T33 t201 x9_4).f2))) (fun _ hk => hk.2) (.string ((rd_T33 t201 x9_4).f3))) (fun _ h_ => h_.1))) hb); have n3_ := Aside0.mk (Kd.R_below (Kd.R_elderB (by (with_reducible repeat (first | apply Kd.R_alloc | apply Kd.R_drewN | apply Kd.R_drew)); exact (Kd.R_mono (Kd.R_far (p := ⟨gb218, 3, none⟩) (Kd.R_far (p := ⟨gb218, 2, none⟩) (Kd.R_far (p := ⟨gb218, 1, none⟩) (Kd.R_far (p := ⟨gb218, 0, none⟩) (Kd.R_mono HO_214001.out (fun k_ hk => (⟨hk, hk.2⟩ : _ ∧ k_ ≠ gb218))) (fun _ hk => hk.2) (.int .i64 ((rd_T33 t201 x9_4).f0))) (fun _ hk => hk.2) (.int .i64 ((rd_T33 t201 x9_4).f1))) (fun _ hk => hk.2) (.int .i64 ((rd_T33 t201 x9_4).f2))) (fun _ hk => hk.2) (.string ((rd_T33 t201 x9_4).f3))) (fun _ h_ => h_.1))) gb220 (Nat.le_of_eq hg.symm)) hb); have n4_ := Aside0.mk (blk_below (g := gb205) (o := .cells #[.slice Ao13 t198.length co13, .slice (some ad217) t201.length co15] 26 (0, 0)) (by (with_reducible repeat (first | refine blk_drewN ?_ _ | refine blk_drew ?_ | refine blk_alloc ?_ _)); refine blk_far ?_ NB205_218.out _; (with_reducible repeat (first | refine blk_drewN ?_ _ | refine blk_drew ?_ | refine blk_alloc ?_ _)); refine blk_far ?_ NB205_218.out _; (with_reducible repeat (first | refine blk_drewN ?_ _ | refine blk_drew ?_ | refine blk_alloc ?_ _)); refine blk_far ?_ NB205_218.out _; (with_reducible repeat (first | refine blk_drewN ?_ _ | refine blk_drew ?_ | refine blk_alloc ?_ _)); refine blk_far ?_ NB205_218.out _; (with_reducible repeat (first | refine blk_drewN ?_ _ | refine blk_drew ?_ | refine blk_alloc ?_ _)); exact BK205.out) hb); have n5_ := Aside0.mk (blk_below (g := gb213) (o := .cells #[.slice Ao18 t206.length co18, .slice (some ad214) t209.length co21] 26 (0, 0)) (by (with_reducible repeat (first | refine blk_drewN ?_ _ | refine blk_drew ?_ | refine blk_alloc ?_ _)); refine blk_far ?_ NB213_218.out _; (with_reducible repeat (first | refine blk_drewN ?_ _ | refine blk_drew ?_ | refine blk_alloc ?_ _)); refine blk_far ?_ NB213_218.out _; (with_reducible repeat (first | refine blk_drewN ?_ _ | refine blk_drew ?_ | refine blk_alloc ?_ _)); refine blk_far ?_ NB213_218.out _; (with_reducible repeat (first | refine blk_drewN ?_ _ | refine blk_drew ?_ | refine blk_alloc ?_ _)); refine blk_far ?_ NB213_218.out _; (with_reducible repeat (first | refine blk_drewN ?_ _ | refine blk_drew ?_ | refine blk_alloc ?_ _)); exact BK213.out) hb); have n6_ := Aside0.mk (blk_below (g := gb218) (o := .cells #[.int .i64 ((rd_T33 t201 x9_4).f0), .int .i64 ((rd_T33 t201 x9_4).f1), .int .i64 ((rd_T33 t201 x9_4).f2), .string ((rd_T33 t201 x9_4).f3)] 33 (0, 0)) (by (with_reducible repeat (first | refine blk_drewN ?_ _ | refine blk_drew ?_ | refine blk_alloc ?_ _)); refine blk_put (cs := #[.int .i64 ((rd_T33 t201 x9_4).f0), .int .i64 ((rd_T33 t201 x9_4).f1), .int .i64 ((rd_T33 t201 x9_4).f2), .string (⟨#[]⟩ : ByteArray)]) ?_ 3 _ rfl; (with_reducible repeat (first | refine blk_drewN ?_ _ | refine blk_drew ?_ | refine blk_alloc ?_ _)); refine blk_put (cs := #[.int .i64 ((rd_T33 t201 x9_4).f0), .int .i64 ((rd_T33 t201 x9_4).f1), .int .i64 0, .string (⟨#[]⟩ : ByteArray)]) ?_ 2 _ rfl; (with_reducible repeat (first | refine blk_drewN ?_ _ | refine blk_drew ?_ | refine blk_alloc ?_ _)); refine blk_put (cs := #[.int .i64 ((rd_T33 t201 x9_4).f0), .int .i64 0, .int .i64 0, .string (⟨#[]⟩ : ByteArray)]) ?_ 1 _ rfl; (with_reducible repeat (first | refine blk_drewN ?_ _ | refine blk_drew ?_ | refine blk_alloc ?_ _)); refine blk_put (cs := #[.int .i64 0, .int .i64 0, .int .i64 0, .string (⟨#[]⟩ : ByteArray)]) ?_ 0 _ rfl; (with_reducible repeat (first | refine blk_drewN ?_ _ | refine blk_drew ?_ | refine blk_alloc ?_ _)); exact BK218.out) hb); have n7_ := Aside0.mk (below_step (by repeat (first | (with_reducible first | exact HB.out | apply below_alloc | apply pw_below_drewN | apply below_drew1 | refine below_set ?_ GE205.out | refine below_set ?_ GE213.out | refine below_set ?_ GE218.out) | exact HB.out)) hb); have n8_ := Aside0.mk (hbox); have n9_ := Aside0.mk ((by rw [hg]; exact (below_size (by repeat (first | (with_reducible first | exact HB.out | apply below_alloc | apply pw_below_drewN | apply below_drew1 | refine below_set ?_ GE205.out | refine below_set ?_ GE213.out | refine below_set ?_ GE218.out) | exact HB.out))) : w.heap.size ≤ gb220)); have n10_ := Aside0.mk ((by rw [hg]; exact (below_size (by repeat (first | (with_reducible first | exact HB.out | apply below_alloc | apply pw_below_drewN | apply below_drew1 | refine below_set ?_ GE205.out | refine below_set ?_ GE213.out | refine below_set ?_ GE218.out) | exact HB.out))) : w.heap.size ≤ gb220)); have n11_ := Aside0.mk ((by rw [hg]; exact Nat.ne_of_lt (blk_lt (g := gb205) (o := .cells #[.slice Ao13 t198.length co13, .slice (some ad217) t201.length co15] 26 (0, 0)) (by (with_reducible repeat (first | refine blk_drewN ?_ _ | refine blk_drew ?_ | refine blk_alloc ?_ _)); refine blk_far ?_ NB205_218.out _; (with_reducible repeat (first | refine blk_drewN ?_ _ | refine blk_drew ?_ | refine blk_alloc ?_ _)); refine blk_far ?_ NB205_218.out _; (with_reducible repeat (first | refine blk_drewN ?_ _ | refine blk_drew ?_ | refine blk_alloc ?_ _)); refine blk_far ?_ NB205_218.out _; (with_reducible repeat (first | refine blk_drewN ?_ _ | refine blk_drew ?_ | refine blk_alloc ?_ _)); refine blk_far ?_ NB205_218.out _; (with_reducible repeat (first | refine blk_drewN ?_ _ | refine blk_drew ?_ | refine blk_alloc ?_ _)); exact BK205.out)) : gb205 ≠ gb220)); have n12_ := Aside0.mk ((by rw [hg]; exact Nat.ne_of_gt (blk_lt (g := gb205) (o := .cells #[.slice Ao13 t198.length co13, .slice (some ad217) t201.length co15] 26 (0, 0)) (by (with_reducible repeat (first | refine blk_drewN ?_ _ | refine blk_drew ?_ | refine blk_alloc ?_ _)); refine blk_far ?_ NB205_218.out _; (with_reducible repeat (first | refine blk_drewN ?_ _ | refine blk_drew ?_ | refine blk_alloc ?_ _)); refine blk_far ?_ NB205_218.out _; (with_reducible repeat (first | refine blk_drewN ?_ _ | refine blk_drew ?_ | refine blk_alloc ?_ _)); refine blk_far ?_ NB205_218.out _; (with_reducible repeat (first | refine blk_drewN ?_ _ | refine blk_drew ?_ | refine blk_alloc ?_ _)); refine blk_far ?_ NB205_218.out _; (with_reducible repeat (first | refine blk_drewN ?_ _ | refine blk_drew ?_ | refine blk_alloc ?_ _)); exact BK205.out)) : gb220 ≠ gb205)); have n13_ := Aside0.mk ((by rw [hg]; exact Nat.ne_of_lt (blk_lt (g := gb213) (o := .cells #[.slice Ao18 t206.length co18, .slice (some ad214) t209.length co21] 26 (0, 0)) (by (with_reducible repeat (first | refine blk_drewN ?_ _ | refine blk_drew ?_ | refine blk_alloc ?_ _)); refine blk_far ?_ NB213_218.out _; (with_reducible repeat (first | refine blk_drewN ?_ _ | refine blk_drew ?_ | refine blk_alloc ?_ _)); refine blk_far ?_ NB213_218.out _; (with_reducible repeat (first | refine blk_drewN ?_ _ | refine blk_drew ?_ | refine blk_alloc ?_ _)); refine blk_far ?_ NB213_218.out _; (with_reducible repeat (first | refine blk_drewN ?_ _ | refine blk_drew ?_ | refine blk_alloc ?_ _)); refine blk_far ?_ NB213_218.out _; (with_reducible repeat (first | refine blk_drewN ?_ _ | refine blk_drew ?_ | refine blk_alloc ?_ _)); exact BK213.out)) : gb213 ≠ gb220)); have n14_ := Aside0.mk ((by rw [hg]; exact Nat.ne_of_gt (blk_lt (g := gb213) (o := .cells #[.slice Ao18 t206.length co18, .slice (some ad214) t209.length co21] 26 (0, 0)) (by (with_reducible repeat (first | refine blk_drewN ?_ _ | refine blk_drew ?_ | refine blk_alloc ?_ _)); refine blk_far ?_ NB213_218.out _; (with_reducible repeat (first | refine blk_drewN ?_ _ | refine blk_drew ?_ | refine blk_alloc ?_ _)); refine blk_far ?_ NB213_218.out _; (with_reducible repeat (first | refine blk_drewN ?_ _ | refine blk_drew ?_ | refine blk_alloc ?_ _)); refine blk_far ?_ NB213_218.out _; (with_reducible repeat (first | refine blk_drewN ?_ _ | refine blk_drew ?_ | refine blk_alloc ?_ _)); refine blk_far ?_ NB213_218.out _; (with_reducible repeat (first | refine blk_drewN ?_ _ | refine blk_drew ?_ | refine blk_alloc ?_ _)); exact BK213.out)) : gb220 ≠ gb213)); have n15_ := Aside0.mk ((by rw [hg]; exact Nat.ne_of_lt (blk_lt (g := gb218) (o := .cells #[.int .i64 ((rd_T33 t201 x9_4).f0), .int .i64 ((rd_T33 t201 x9_4).f1), .int .i64 ((rd_T33 t201 x9_4).f2), .string ((rd_T33 t201 x9_4).f3)] 33 (0, 0)) (by (with_reducible repeat (first | refine blk_drewN ?_ _ | refine blk_drew ?_ | refine blk_alloc ?_ _)); refine blk_put (cs := #[.int .i64 ((rd_T33 t201 x9_4).f0), .int .i64 ((rd_T33 t201 x9_4).f1), .int .i64 ((rd_T33 t201 x9_4).f2), .string (⟨#[]⟩ : ByteArray)]) ?_ 3 _ rfl; (with_reducible repeat (first | refine blk_drewN ?_ _ | refine blk_drew ?_ | refine blk_alloc ?_ _)); refine blk_put (cs := #[.int .i64 ((rd_T33 t201 x9_4).f0), .int .i64 ((rd_T33 t201 x9_4).f1), .int .i64 0, .string (⟨#[]⟩ : ByteArray)]) ?_ 2 _ rfl; (with_reducible repeat (first | refine blk_drewN ?_ _ | refine blk_drew ?_ | refine blk_alloc ?_ _)); refine blk_put (cs := #[.int .i64 ((rd_T33 t201 x9_4).f0), .int .i64 0, .int .i64 0, .string (⟨#[]⟩ : ByteArray)]) ?_ 1 _ rfl; (with_reducible repeat (first | refine blk_drewN ?_ _ | refine blk_drew ?_ | refine blk_alloc ?_ _)); refine blk_put (cs := #[.int .i64 0, .int .i64 0, .int .i64 0, .string (⟨#[]⟩ : ByteArray)]) ?_ 0 _ rfl; (with_reducible repeat (first | refine blk_drewN ?_ _ | refine blk_drew ?_ | refine blk_alloc ?_ _)); exact BK218.out)) : gb218 ≠ gb220)); have n16_ := Aside0.mk ((by rw [hg]; exact Nat.ne_of_gt (blk_lt (g := gb218) (o := .cells #[.int .i64 ((rd_T33 t201 x9_4).f0), .int .i64 ((rd_T33 t201 x9_4).f1), .int .i64 ((rd_T33 t201 x9_4).f2), .string ((rd_T33 t201 x9_4).f3)] 33 (0, 0)) (by (with_reducible repeat (first | refine blk_drewN ?_ _ | refine blk_drew ?_ | refine blk_alloc ?_ _)); refine blk_put (cs := #[.int .i64 ((rd_T33 t201 x9_4).f0), .int .i64 ((rd_T33 t201 x9_4).f1), .int .i64 ((rd_T33 t201 x9_4).f2), .string (⟨#[]⟩ : ByteArray)]) ?_ 3 _ rfl; (with_reducible repeat (first | refine blk_drewN ?_ _ | refine blk_drew ?_ | refine blk_alloc ?_ _)); refine blk_put (cs := #[.int .i64 ((rd_T33 t201 x9_4).f0), .int .i64 ((rd_T33 t201 x9_4).f1), .int .i64 0, .string (⟨#[]⟩ : ByteArray)]) ?_ 2 _ rfl; (with_reducible repeat (first | refine blk_drewN ?_ _ | refine blk_drew ?_ | refine blk_alloc ?_ _)); refine blk_put (cs := #[.int .i64 ((rd_T33 t201 x9_4).f0), .int .i64 0, .int .i64 0, .string (⟨#[]⟩ : ByteArray)]) ?_ 1 _ rfl; (with_reducible repeat (first | refine blk_drewN ?_ _ | refine blk_drew ?_ | refine blk_alloc ?_ _)); refine blk_put (cs := #[.int .i64 0, .int .i64 0, .int .i64 0, .string (⟨#[]⟩ : ByteArray)]) ?_ 0 _ rfl; (with_reducible repeat (first | refine blk_drewN ?_ _ | refine blk_drew ?_ | refine blk_alloc ?_ _)); exact BK218.out)) : gb220 ≠ gb218)); clear HO_206000; clear HO_206001; clear HO_214000; clear HO_214001; clear BK205; clear BK213; clear BK218; clear HB; have HO_206000 := n0_; have HO_206001 := n1_; have HO_214000 := n2_; have HO_214001 := n3_; have BK205 := n4_; have BK213 := n5_; have BK218 := n6_; have HB := n7_; have BK220 := n8_; have GW220 := n9_; have GE220 := n10_; have NB205_220 := n11_; have NB220_205 := n12_; have NB213_220 := n13_; have NB220_213 := n14_; have NB218_220 := n15_; have NB220_218 := n16_; clear n0_ n1_ n2_ n3_ n4_ n5_ n6_ n7_ n8_ n9_ n10_ n11_ n12_ n13_ n14_ n15_ n16_; clear hb hbox hg; have hnb58 := NB220_205.out; have hnc58 := NB205_220.out; have hnb59 := NB220_213.out; have hnc59 := NB213_220.out; have hnb60 := NB220_218.out; have hnc60 := NB218_220.out; have hcz61_0 : w57.cell? ⟨gb220, 0, none⟩ = some (.int .i64 0) := (blk_cell BK220.out 0).trans rfl; have hcz61_1 : w57.cell? ⟨gb220, 1, none⟩ = some (.int .i64 0) := (blk_cell BK220.out 1).trans rfl; have hcz61_2 : w57.cell? ⟨gb220, 2, none⟩ = some (.int .i64 0) := (blk_cell BK220.out 2).trans rfl; have hcz61_3 : w57.cell? ⟨gb220, 3, none⟩ = some (.string (⟨#[]⟩ : ByteArray)) := (blk_cell BK220.out 3).trans rfl; have hfz61_0 := blk_frozen BK220.out 0; have hfz61_1 := blk_frozen BK220.out 1; have hfz61_2 := blk_frozen BK220.out 2; have hfz61_3 := blk_frozen BK220.out 3)); go_upto_if 90 with (first | ((with_reducible refine gate_dst (N := 10) rfl ?_); (try (refine gate_guard (by rfl) ?_; dsimp only)); refine box_event ?hg (N := 10) ?hd (cs := #[.int .i64 0, .int .i64 0, .int .i64 0, .string (⟨#[]⟩ : ByteArray)]) (t := 33) ?hr ?_; (case hd => rfl); (case hg => rfl); (case hr => first | (go_simp; done) | (go_simp; rfl)); intro gb218 hg w52 hbox hb; have n0_ := Aside0.mk (Kd.R_below (by (with_reducible repeat (first | apply Kd.R_alloc | apply Kd.R_drewN | apply Kd.R_drew)); exact HO_206000.out) hb); have n1_ := Aside0.mk (Kd.R_below (Kd.R_elderB (by (with_reducible repeat (first | apply Kd.R_alloc | apply Kd.R_drewN | apply Kd.R_drew)); exact HO_206001.out) gb218 (Nat.le_of_eq hg.symm)) hb); have n2_ := Aside0.mk (Kd.R_below (by (with_reducible repeat (first | apply Kd.R_alloc | apply Kd.R_drewN | apply Kd.R_drew)); exact HO_214000.out) hb); have n3_ := Aside0.mk (Kd.R_below (Kd.R_elderB (by (with_reducible repeat (first | apply Kd.R_alloc | apply Kd.R_drewN | apply Kd.R_drew)); exact HO_214001.out) gb218 (Nat.le_of_eq hg.symm)) hb); have n4_ := Aside0.mk (blk_below (g := gb205) (o := .cells #[.slice Ao13 t198.length co13, .slice (some ad217) t201.length co15] 26 (0, 0)) (by (with_reducible repeat (first | refine blk_drewN ?_ _ | refine blk_drew ?_ | refine blk_alloc ?_ _)); exact BK205.out) hb); have n5_ := Aside0.mk (blk_below (g := gb213) (o := .cells #[.slice Ao18 t206.length co18, .slice (some ad214) t209.length co21] 26 (0, 0)) (by (with_reducible repeat (first | refine blk_drewN ?_ _ | refine blk_drew ?_ | refine blk_alloc ?_ _)); exact BK213.out) hb); have n6_ := Aside0.mk (below_step (by repeat (first | (with_reducible first | exact HB.out | apply below_alloc | apply pw_below_drewN | apply below_drew1 | refine below_set ?_ GE205.out | refine below_set ?_ GE213.out) | exact HB.out)) hb); have n7_ := Aside0.mk (hbox); have n8_ := Aside0.mk ((by rw [hg]; exact (below_size (by repeat (first | (with_reducible first | exact HB.out | apply below_alloc | apply pw_below_drewN | apply below_drew1 | refine below_set ?_ GE205.out | refine below_set ?_ GE213.out) | exact HB.out))) : w.heap.size ≤ gb218)); have n9_ := Aside0.mk ((by rw [hg]; exact (below_size (by repeat (first | (with_reducible first | exact HB.out | apply below_alloc | apply pw_below_drewN | apply below_drew1 | refine below_set ?_ GE205.out | refine below_set ?_ GE213.out) | exact HB.out))) : w.heap.size ≤ gb218)); have n10_ := Aside0.mk ((by rw [hg]; exact Nat.ne_of_lt (blk_lt (g := gb205) (o := .cells #[.slice Ao13 t198.length co13, .slice (some ad217) t201.length co15] 26 (0, 0)) (by (with_reducible repeat (first | refine blk_drewN ?_ _ | refine blk_drew ?_ | refine blk_alloc ?_ _)); exact BK205.out)) : gb205 ≠ gb218)); have n11_ := Aside0.mk ((by rw [hg]; exact Nat.ne_of_gt (blk_lt (g := gb205) (o := .cells #[.slice Ao13 t198.length co13, .slice (some ad217) t201.length co15] 26 (0, 0)) (by (with_reducible repeat (first | refine blk_drewN ?_ _ | refine blk_drew ?_ | refine blk_alloc ?_ _)); exact BK205.out)) : gb218 ≠ gb205)); have n12_ := Aside0.mk ((by rw [hg]; exact Nat.ne_of_lt (blk_lt (g := gb213) (o := .cells #[.slice Ao18 t206.length co18, .slice (some ad214) t209.length co21] 26 (0, 0)) (by (with_reducible repeat (first | refine blk_drewN ?_ _ | refine blk_drew ?_ | refine blk_alloc ?_ _)); exact BK213.out)) : gb213 ≠ gb218)); have n13_ := Aside0.mk ((by rw [hg]; exact Nat.ne_of_gt (blk_lt (g := gb213) (o := .cells #[.slice Ao18 t206.length co18, .slice (some ad214) t209.length co21] 26 (0, 0)) (by (with_reducible repeat (first | refine blk_drewN ?_ _ | refine blk_drew ?_ | refine blk_alloc ?_ _)); exact BK213.out)) : gb218 ≠ gb213)); clear HO_206000; clear HO_206001; clear HO_214000; clear HO_214001; clear BK205; clear BK213; clear HB; have HO_206000 := n0_; have HO_206001 := n1_; have HO_214000 := n2_; have HO_214001 := n3_; have BK205 := n4_; have BK213 := n5_; have HB := n6_; have BK218 := n7_; have GW218 := n8_; have GE218 := n9_; have NB205_218 := n10_; have NB218_205 := n11_; have NB213_218 := n12_; have NB218_213 := n13_; clear n0_ n1_ n2_ n3_ n4_ n5_ n6_ n7_ n8_ n9_ n10_ n11_ n12_ n13_; clear hb hbox hg; have hnb53 := NB218_205.out; have hnc53 := NB205_218.out; have hnb54 := NB218_213.out; have hnc54 := NB213_218.out; have hcz55_0 : w52.cell? ⟨gb218, 0, none⟩ = some (.int .i64 0) := (blk_cell BK218.out 0).trans rfl; have hcz55_1 : w52.cell? ⟨gb218, 1, none⟩ = some (.int .i64 0) := (blk_cell BK218.out 1).trans rfl; have hcz55_2 : w52.cell? ⟨gb218, 2, none⟩ = some (.int .i64 0) := (blk_cell BK218.out 2).trans rfl; have hcz55_3 : w52.cell? ⟨gb218, 3, none⟩ = some (.string (⟨#[]⟩ : ByteArray)) := (blk_cell BK218.out 3).trans rfl; have hfz55_0 := blk_frozen BK218.out 0; have hfz55_1 := blk_frozen BK218.out 1; have hfz55_2 := blk_frozen BK218.out 2; have hfz55_3 := blk_frozen BK218.out 3; have hcz56_0 : w52.cell? ⟨gb213, 0, none⟩ = some (.slice Ao18 t206.length co18) := (blk_cell BK213.out 0).trans rfl; have hcz56_1 : w52.cell? ⟨gb213, 1, none⟩ = some (.slice (some ad214) t209.length co21) := (blk_cell BK213.out 1).trans rfl; have hfz56_0 := blk_frozen BK213.out 0; have hfz56_1 := blk_frozen BK213.out 1; have p219 : 0 ≤ ((ji46) : Int) := of_decide_eq_true (by first | (with_reducible assumption) | assumption); have q219 : (ji46) < (t209.length : Int) := of_decide_eq_true (by first | (with_reducible assumption) | assumption); obtain ⟨ad219, e219, hx219_0, hx219_1, hx219_2, hx219_3⟩ := at_T33 (Kd.R_reads' HO_214001.out).2.2 (ji46) p219 q219; obtain rfl : ad214 = ad219 := (by injection e219); have hn219_0 : ad214.block ≠ gb218 := (by first | exact Kd.own_blk (Kd.R_ne HO_214001.out BK218.out (by decide)) | exact Kd.own_blk (fun e_ => (HO_214001.out.1 _ e_.symm).2 rfl) | exact Kd.own_blk (fun e_ => (HO_214001.out.1 _ e_.symm).1.2 rfl)); have hn219_1 : ad214.block ≠ gb218 := (by first | exact Kd.own_blk (Kd.R_ne HO_214001.out BK218.out (by decide)) | exact Kd.own_blk (fun e_ => (HO_214001.out.1 _ e_.symm).2 rfl) | exact Kd.own_blk (fun e_ => (HO_214001.out.1 _ e_.symm).1.2 rfl)); have hn219_2 : ad214.block ≠ gb218 := (by first | exact Kd.own_blk (Kd.R_ne HO_214001.out BK218.out (by decide)) | exact Kd.own_blk (fun e_ => (HO_214001.out.1 _ e_.symm).2 rfl) | exact Kd.own_blk (fun e_ => (HO_214001.out.1 _ e_.symm).1.2 rfl)); have hn219_3 : ad214.block ≠ gb218 := (by first | exact Kd.own_blk (Kd.R_ne HO_214001.out BK218.out (by decide)) | exact Kd.own_blk (fun e_ => (HO_214001.out.1 _ e_.symm).2 rfl) | exact Kd.own_blk (fun e_ => (HO_214001.out.1 _ e_.symm).1.2 rfl)); have hw219_0 := fun (n_ : Nat) => (show (w52.drewN n_).cell? _ = some _ from hx219_0); replace hx219_0 := (cell_far (p := ⟨gb218, 0, none⟩) (by first | (rw [add_block]; exact hn219_0) | (show (Addr.add _ _).block ≠ _; rw [add_block]; exact hn219_0) | exact hn219_0) (.int .i64 ((rd_T33 t201 x9_4).f0))).trans hx219_0; replace hw219_0 := fun (n_ : Nat) => (cell_far (p := ⟨gb218, 0, none⟩) (by first | (rw [add_block]; exact hn219_0) | (show (Addr.add _ _).block ≠ _; rw [add_block]; exact hn219_0) | exact hn219_0) (.int .i64 ((rd_T33 t201 x9_4).f0))).trans (hw219_0 n_); have hw219_1 := fun (n_ : Nat) => (show (w52.drewN n_).cell? _ = some _ from hx219_1); replace hx219_1 := (cell_far (p := ⟨gb218, 0, none⟩) (by first | (rw [add_block]; exact hn219_0) | (show (Addr.add _ _).block ≠ _; rw [add_block]; exact hn219_0) | exact hn219_0) (.int .i64 ((rd_T33 t201 x9_4).f0))).trans hx219_1; replace hw219_1 := fun (n_ : Nat) => (cell_far (p := ⟨gb218, 0, none⟩) (by first | (rw [add_block]; exact hn219_0) | (show (Addr.add _ _).block ≠ _; rw [add_block]; exact hn219_0) | exact hn219_0) (.int .i64 ((rd_T33 t201 x9_4).f0))).trans (hw219_1 n_); have hw219_2 := fun (n_ : Nat) => (show (w52.drewN n_).cell? _ = some _ from hx219_2); replace hx219_2 := (cell_far (p := ⟨gb218, 0, none⟩) (by first | (rw [add_block]; exact hn219_0) | (show (Addr.add _ _).block ≠ _; rw [add_block]; exact hn219_0) | exact hn219_0) (.int .i64 ((rd_T33 t201 x9_4).f0))).trans hx219_2; replace hw219_2 := fun (n_ : Nat) => (cell_far (p := ⟨gb218, 0, none⟩) (by first | (rw [add_block]; exact hn219_0) | (show (Addr.add _ _).block ≠ _; rw [add_block]; exact hn219_0) | exact hn219_0) (.int .i64 ((rd_T33 t201 x9_4).f0))).trans (hw219_2 n_); have hw219_3 := fun (n_ : Nat) => (show (w52.drewN n_).cell? _ = some _ from hx219_3); replace hx219_3 := (cell_far (p := ⟨gb218, 0, none⟩) (by first | (rw [add_block]; exact hn219_0) | (show (Addr.add _ _).block ≠ _; rw [add_block]; exact hn219_0) | exact hn219_0) (.int .i64 ((rd_T33 t201 x9_4).f0))).trans hx219_3; replace hw219_3 := fun (n_ : Nat) => (cell_far (p := ⟨gb218, 0, none⟩) (by first | (rw [add_block]; exact hn219_0) | (show (Addr.add _ _).block ≠ _; rw [add_block]; exact hn219_0) | exact hn219_0) (.int .i64 ((rd_T33 t201 x9_4).f0))).trans (hw219_3 n_); replace hx219_0 := (cell_far (p := ⟨gb218, 1, none⟩) (by first | (rw [add_block]; exact hn219_1) | (show (Addr.add _ _).block ≠ _; rw [add_block]; exact hn219_1) | exact hn219_1) (.int .i64 ((rd_T33 t201 x9_4).f1))).trans hx219_0; replace hw219_0 := fun (n_ : Nat) => (cell_far (p := ⟨gb218, 1, none⟩) (by first | (rw [add_block]; exact hn219_1) | (show (Addr.add _ _).block ≠ _; rw [add_block]; exact hn219_1) | exact hn219_1) (.int .i64 ((rd_T33 t201 x9_4).f1))).trans (hw219_0 n_); replace hx219_1 := (cell_far (p := ⟨gb218, 1, none⟩) (by first | (rw [add_block]; exact hn219_1) | (show (Addr.add _ _).block ≠ _; rw [add_block]; exact hn219_1) | exact hn219_1) (.int .i64 ((rd_T33 t201 x9_4).f1))).trans hx219_1; replace hw219_1 := fun (n_ : Nat) => (cell_far (p := ⟨gb218, 1, none⟩) (by first | (rw [add_block]; exact hn219_1) | (show (Addr.add _ _).block ≠ _; rw [add_block]; exact hn219_1) | exact hn219_1) (.int .i64 ((rd_T33 t201 x9_4).f1))).trans (hw219_1 n_); replace hx219_2 := (cell_far (p := ⟨gb218, 1, none⟩) (by first | (rw [add_block]; exact hn219_1) | (show (Addr.add _ _).block ≠ _; rw [add_block]; exact hn219_1) | exact hn219_1) (.int .i64 ((rd_T33 t201 x9_4).f1))).trans hx219_2; replace hw219_2 := fun (n_ : Nat) => (cell_far (p := ⟨gb218, 1, none⟩) (by first | (rw [add_block]; exact hn219_1) | (show (Addr.add _ _).block ≠ _; rw [add_block]; exact hn219_1) | exact hn219_1) (.int .i64 ((rd_T33 t201 x9_4).f1))).trans (hw219_2 n_); replace hx219_3 := (cell_far (p := ⟨gb218, 1, none⟩) (by first | (rw [add_block]; exact hn219_1) | (show (Addr.add _ _).block ≠ _; rw [add_block]; exact hn219_1) | exact hn219_1) (.int .i64 ((rd_T33 t201 x9_4).f1))).trans hx219_3; replace hw219_3 := fun (n_ : Nat) => (cell_far (p := ⟨gb218, 1, none⟩) (by first | (rw [add_block]; exact hn219_1) | (show (Addr.add _ _).block ≠ _; rw [add_block]; exact hn219_1) | exact hn219_1) (.int .i64 ((rd_T33 t201 x9_4).f1))).trans (hw219_3 n_); replace hx219_0 := (cell_far (p := ⟨gb218, 2, none⟩) (by first | (rw [add_block]; exact hn219_2) | (show (Addr.add _ _).block ≠ _; rw [add_block]; exact hn219_2) | exact hn219_2) (.int .i64 ((rd_T33 t201 x9_4).f2))).trans hx219_0; replace hw219_0 := fun (n_ : Nat) => (cell_far (p := ⟨gb218, 2, none⟩) (by first | (rw [add_block]; exact hn219_2) | (show (Addr.add _ _).block ≠ _; rw [add_block]; exact hn219_2) | exact hn219_2) (.int .i64 ((rd_T33 t201 x9_4).f2))).trans (hw219_0 n_); replace hx219_1 := (cell_far (p := ⟨gb218, 2, none⟩) (by first | (rw [add_block]; exact hn219_2) | (show (Addr.add _ _).block ≠ _; rw [add_block]; exact hn219_2) | exact hn219_2) (.int .i64 ((rd_T33 t201 x9_4).f2))).trans hx219_1; replace hw219_1 := fun (n_ : Nat) => (cell_far (p := ⟨gb218, 2, none⟩) (by first | (rw [add_block]; exact hn219_2) | (show (Addr.add _ _).block ≠ _; rw [add_block]; exact hn219_2) | exact hn219_2) (.int .i64 ((rd_T33 t201 x9_4).f2))).trans (hw219_1 n_); replace hx219_2 := (cell_far (p := ⟨gb218, 2, none⟩) (by first | (rw [add_block]; exact hn219_2) | (show (Addr.add _ _).block ≠ _; rw [add_block]; exact hn219_2) | exact hn219_2) (.int .i64 ((rd_T33 t201 x9_4).f2))).trans hx219_2; replace hw219_2 := fun (n_ : Nat) => (cell_far (p := ⟨gb218, 2, none⟩) (by first | (rw [add_block]; exact hn219_2) | (show (Addr.add _ _).block ≠ _; rw [add_block]; exact hn219_2) | exact hn219_2) (.int .i64 ((rd_T33 t201 x9_4).f2))).trans (hw219_2 n_); replace hx219_3 := (cell_far (p := ⟨gb218, 2, none⟩) (by first | (rw [add_block]; exact hn219_2) | (show (Addr.add _ _).block ≠ _; rw [add_block]; exact hn219_2) | exact hn219_2) (.int .i64 ((rd_T33 t201 x9_4).f2))).trans hx219_3; replace hw219_3 := fun (n_ : Nat) => (cell_far (p := ⟨gb218, 2, none⟩) (by first | (rw [add_block]; exact hn219_2) | (show (Addr.add _ _).block ≠ _; rw [add_block]; exact hn219_2) | exact hn219_2) (.int .i64 ((rd_T33 t201 x9_4).f2))).trans (hw219_3 n_); replace hx219_0 := (cell_far (p := ⟨gb218, 3, none⟩) (by first | (rw [add_block]; exact hn219_3) | (show (Addr.add _ _).block ≠ _; rw [add_block]; exact hn219_3) | exact hn219_3) (.string ((rd_T33 t201 x9_4).f3))).trans hx219_0; replace hw219_0 := fun (n_ : Nat) => (cell_far (p := ⟨gb218, 3, none⟩) (by first | (rw [add_block]; exact hn219_3) | (show (Addr.add _ _).block ≠ _; rw [add_block]; exact hn219_3) | exact hn219_3) (.string ((rd_T33 t201 x9_4).f3))).trans (hw219_0 n_); replace hx219_1 := (cell_far (p := ⟨gb218, 3, none⟩) (by first | (rw [add_block]; exact hn219_3) | (show (Addr.add _ _).block ≠ _; rw [add_block]; exact hn219_3) | exact hn219_3) (.string ((rd_T33 t201 x9_4).f3))).trans hx219_1; replace hw219_1 := fun (n_ : Nat) => (cell_far (p := ⟨gb218, 3, none⟩) (by first | (rw [add_block]; exact hn219_3) | (show (Addr.add _ _).block ≠ _; rw [add_block]; exact hn219_3) | exact hn219_3) (.string ((rd_T33 t201 x9_4).f3))).trans (hw219_1 n_); replace hx219_2 := (cell_far (p := ⟨gb218, 3, none⟩) (by first | (rw [add_block]; exact hn219_3) | (show (Addr.add _ _).block ≠ _; rw [add_block]; exact hn219_3) | exact hn219_3) (.string ((rd_T33 t201 x9_4).f3))).trans hx219_2; replace hw219_2 := fun (n_ : Nat) => (cell_far (p := ⟨gb218, 3, none⟩) (by first | (rw [add_block]; exact hn219_3) | (show (Addr.add _ _).block ≠ _; rw [add_block]; exact hn219_3) | exact hn219_3) (.string ((rd_T33 t201 x9_4).f3))).trans (hw219_2 n_); replace hx219_3 := (cell_far (p := ⟨gb218, 3, none⟩) (by first | (rw [add_block]; exact hn219_3) | (show (Addr.add _ _).block ≠ _; rw [add_block]; exact hn219_3) | exact hn219_3) (.string ((rd_T33 t201 x9_4).f3))).trans hx219_3; replace hw219_3 := fun (n_ : Nat) => (cell_far (p := ⟨gb218, 3, none⟩) (by first | (rw [add_block]; exact hn219_3) | (show (Addr.add _ _).block ≠ _; rw [add_block]; exact hn219_3) | exact hn219_3) (.string ((rd_T33 t201 x9_4).f3))).trans (hw219_3 n_); have hy219_0 := hw219_0; have hy219_1 := hw219_1; have hy219_2 := hw219_2; have hy219_3 := hw219_3; clear hn219_0; clear hn219_1; clear hn219_2; clear hn219_3; replace p219 := eq_true p219; replace q219 := eq_true q219) | ((with_reducible refine gate_dst (N := 11) rfl ?_); (try (refine gate_guard (by rfl) ?_; dsimp only)); refine box_event ?hg (N := 11) ?hd (cs := #[.int .i64 0, .int .i64 0, .int .i64 0, .string (⟨#[]⟩ : ByteArray)]) (t := 33) ?hr ?_; (case hd => rfl); (case hg => rfl); (case hr => first | (go_simp; done) | (go_simp; rfl)); intro gb220 hg w57 hbox hb; have n0_ := Aside0.mk (Kd.R_below (by (with_reducible repeat (first | apply Kd.R_alloc | apply Kd.R_drewN | apply Kd.R_drew)); exact (Kd.R_mono (Kd.R_far (p := ⟨gb218, 3, none⟩) (Kd.R_far (p := ⟨gb218, 2, none⟩) (Kd.R_far (p := ⟨gb218, 1, none⟩) (Kd.R_far (p := ⟨gb218, 0, none⟩) (Kd.R_types HO_206000.out BK218.out (by decide)) (fun _ hk => hk.2) (.int .i64 ((rd_T33 t201 x9_4).f0))) (fun _ hk => hk.2) (.int .i64 ((rd_T33 t201 x9_4).f1))) (fun _ hk => hk.2) (.int .i64 ((rd_T33 t201 x9_4).f2))) (fun _ hk => hk.2) (.string ((rd_T33 t201 x9_4).f3))) (fun _ h_ => h_.1))) hb); have n1_ := Aside0.mk (Kd.R_below (Kd.R_elderB (by (with_reducible repeat (first | apply Kd.R_alloc | apply Kd.R_drewN | apply Kd.R_drew)); exact (Kd.R_mono (Kd.R_far (p := ⟨gb218, 3, none⟩) (Kd.R_far (p := ⟨gb218, 2, none⟩) (Kd.R_far (p := ⟨gb218, 1, none⟩) (Kd.R_far (p := ⟨gb218, 0, none⟩) (Kd.R_mono HO_206001.out (fun k_ hk => (⟨hk, hk.2⟩ : _ ∧ k_ ≠ gb218))) (fun _ hk => hk.2) (.int .i64 ((rd_T33 t201 x9_4).f0))) (fun _ hk => hk.2) (.int .i64 ((rd_T33 t201 x9_4).f1))) (fun _ hk => hk.2) (.int .i64 ((rd_T33 t201 x9_4).f2))) (fun _ hk => hk.2) (.string ((rd_T33 t201 x9_4).f3))) (fun _ h_ => h_.1))) gb220 (Nat.le_of_eq hg.symm)) hb); have n2_ := Aside0.mk (Kd.R_below (by (with_reducible repeat (first | apply Kd.R_alloc | apply Kd.R_drewN | apply Kd.R_drew)); exact (Kd.R_mono (Kd.R_far (p := ⟨gb218, 3, none⟩) (Kd.R_far (p := ⟨gb218, 2, none⟩) (Kd.R_far (p := ⟨gb218, 1, none⟩) (Kd.R_far (p := ⟨gb218, 0, none⟩) (Kd.R_types HO_214000.out BK218.out (by decide)) (fun _ hk => hk.2) (.int .i64 ((rd_T33 t201 x9_4).f0))) (fun _ hk => hk.2) (.int .i64 ((rd_T33 t201 x9_4).f1))) (fun _ hk => hk.2) (.int .i64 ((rd_T33 t201 x9_4).f2))) (fun _ hk => hk.2) (.string ((rd_T33 t201 x9_4).f3))) (fun _ h_ => h_.1))) hb); have n3_ := Aside0.mk (Kd.R_below (Kd.R_elderB (by (with_reducible repeat (first | apply Kd.R_alloc | apply Kd.R_drewN | apply Kd.R_drew)); exact (Kd.R_mono (Kd.R_far (p := ⟨gb218, 3, none⟩) (Kd.R_far (p := ⟨gb218, 2, none⟩) (Kd.R_far (p := ⟨gb218, 1, none⟩) (Kd.R_far (p := ⟨gb218, 0, none⟩) (Kd.R_mono HO_214001.out (fun k_ hk => (⟨hk, hk.2⟩ : _ ∧ k_ ≠ gb218))) (fun _ hk => hk.2) (.int .i64 ((rd_T33 t201 x9_4).f0))) (fun _ hk => hk.2) (.int .i64 ((rd_T33 t201 x9_4).f1))) (fun _ hk => hk.2) (.int .i64 ((rd_T33 t201 x9_4).f2))) (fun _ hk => hk.2) (.string ((rd_T33 t201 x9_4).f3))) (fun _ h_ => h_.1))) gb220 (Nat.le_of_eq hg.symm)) hb); have n4_ := Aside0.mk (blk_below (g := gb205) (o := .cells #[.slice Ao13 t198.length co13, .slice (some ad217) t201.length co15] 26 (0, 0)) (by (with_reducible repeat (first | refine blk_drewN ?_ _ | refine blk_drew ?_ | refine blk_alloc ?_ _)); refine blk_far ?_ NB205_218.out _; (with_reducible repeat (first | refine blk_drewN ?_ _ | refine blk_drew ?_ | refine blk_alloc ?_ _)); refine blk_far ?_ NB205_218.out _; (with_reducible repeat (first | refine blk_drewN ?_ _ | refine blk_drew ?_ | refine blk_alloc ?_ _)); refine blk_far ?_ NB205_218.out _; (with_reducible repeat (first | refine blk_drewN ?_ _ | refine blk_drew ?_ | refine blk_alloc ?_ _)); refine blk_far ?_ NB205_218.out _; (with_reducible repeat (first | refine blk_drewN ?_ _ | refine blk_drew ?_ | refine blk_alloc ?_ _)); exact BK205.out) hb); have n5_ := Aside0.mk (blk_below (g := gb213) (o := .cells #[.slice Ao18 t206.length co18, .slice (some ad214) t209.length co21] 26 (0, 0)) (by (with_reducible repeat (first | refine blk_drewN ?_ _ | refine blk_drew ?_ | refine blk_alloc ?_ _)); refine blk_far ?_ NB213_218.out _; (with_reducible repeat (first | refine blk_drewN ?_ _ | refine blk_drew ?_ | refine blk_alloc ?_ _)); refine blk_far ?_ NB213_218.out _; (with_reducible repeat (first | refine blk_drewN ?_ _ | refine blk_drew ?_ | refine blk_alloc ?_ _)); refine blk_far ?_ NB213_218.out _; (with_reducible repeat (first | refine blk_drewN ?_ _ | refine blk_drew ?_ | refine blk_alloc ?_ _)); refine blk_far ?_ NB213_218.out _; (with_reducible repeat (first | refine blk_drewN ?_ _ | refine blk_drew ?_ | refine blk_alloc ?_ _)); exact BK213.out) hb); have n6_ := Aside0.mk (blk_below (g := gb218) (o := .cells #[.int .i64 ((rd_T33 t201 x9_4).f0), .int .i64 ((rd_T33 t201 x9_4).f1), .int .i64 ((rd_T33 t201 x9_4).f2), .string ((rd_T33 t201 x9_4).f3)] 33 (0, 0)) (by (with_reducible repeat (first | refine blk_drewN ?_ _ | refine blk_drew ?_ | refine blk_alloc ?_ _)); refine blk_put (cs := #[.int .i64 ((rd_T33 t201 x9_4).f0), .int .i64 ((rd_T33 t201 x9_4).f1), .int .i64 ((rd_T33 t201 x9_4).f2), .string (⟨#[]⟩ : ByteArray)]) ?_ 3 _ rfl; (with_reducible repeat (first | refine blk_drewN ?_ _ | refine blk_drew ?_ | refine blk_alloc ?_ _)); refine blk_put (cs := #[.int .i64 ((rd_T33 t201 x9_4).f0), .int .i64 ((rd_T33 t201 x9_4).f1), .int .i64 0, .string (⟨#[]⟩ : ByteArray)]) ?_ 2 _ rfl; (with_reducible repeat (first | refine blk_drewN ?_ _ | refine blk_drew ?_ | refine blk_alloc ?_ _)); refine blk_put (cs := #[.int .i64 ((rd_T33 t201 x9_4).f0), .int .i64 0, .int .i64 0, .string (⟨#[]⟩ : ByteArray)]) ?_ 1 _ rfl; (with_reducible repeat (first | refine blk_drewN ?_ _ | refine blk_drew ?_ | refine blk_alloc ?_ _)); refine blk_put (cs := #[.int .i64 0, .int .i64 0, .int .i64 0, .string (⟨#[]⟩ : ByteArray)]) ?_ 0 _ rfl; (with_reducible repeat (first | refine blk_drewN ?_ _ | refine blk_drew ?_ | refine blk_alloc ?_ _)); exact BK218.out) hb); have n7_ := Aside0.mk (below_step (by repeat (first | (with_reducible first | exact HB.out | apply below_alloc | apply pw_below_drewN | apply below_drew1 | refine below_set ?_ GE205.out | refine below_set ?_ GE213.out | refine below_set ?_ GE218.out) | exact HB.out)) hb); have n8_ := Aside0.mk (hbox); have n9_ := Aside0.mk ((by rw [hg]; exact (below_size (by repeat (first | (with_reducible first | exact HB.out | apply below_alloc | apply pw_below_drewN | apply below_drew1 | refine below_set ?_ GE205.out | refine below_set ?_ GE213.out | refine below_set ?_ GE218.out) | exact HB.out))) : w.heap.size ≤ gb220)); have n10_ := Aside0.mk ((by rw [hg]; exact (below_size (by repeat (first | (with_reducible first | exact HB.out | apply below_alloc | apply pw_below_drewN | apply below_drew1 | refine below_set ?_ GE205.out | refine below_set ?_ GE213.out | refine below_set ?_ GE218.out) | exact HB.out))) : w.heap.size ≤ gb220)); have n11_ := Aside0.mk ((by rw [hg]; exact Nat.ne_of_lt (blk_lt (g := gb205) (o := .cells #[.slice Ao13 t198.length co13, .slice (some ad217) t201.length co15] 26 (0, 0)) (by (with_reducible repeat (first | refine blk_drewN ?_ _ | refine blk_drew ?_ | refine blk_alloc ?_ _)); refine blk_far ?_ NB205_218.out _; (with_reducible repeat (first | refine blk_drewN ?_ _ | refine blk_drew ?_ | refine blk_alloc ?_ _)); refine blk_far ?_ NB205_218.out _; (with_reducible repeat (first | refine blk_drewN ?_ _ | refine blk_drew ?_ | refine blk_alloc ?_ _)); refine blk_far ?_ NB205_218.out _; (with_reducible repeat (first | refine blk_drewN ?_ _ | refine blk_drew ?_ | refine blk_alloc ?_ _)); refine blk_far ?_ NB205_218.out _; (with_reducible repeat (first | refine blk_drewN ?_ _ | refine blk_drew ?_ | refine blk_alloc ?_ _)); exact BK205.out)) : gb205 ≠ gb220)); have n12_ := Aside0.mk ((by rw [hg]; exact Nat.ne_of_gt (blk_lt (g := gb205) (o := .cells #[.slice Ao13 t198.length co13, .slice (some ad217) t201.length co15] 26 (0, 0)) (by (with_reducible repeat (first | refine blk_drewN ?_ _ | refine blk_drew ?_ | refine blk_alloc ?_ _)); refine blk_far ?_ NB205_218.out _; (with_reducible repeat (first | refine blk_drewN ?_ _ | refine blk_drew ?_ | refine blk_alloc ?_ _)); refine blk_far ?_ NB205_218.out _; (with_reducible repeat (first | refine blk_drewN ?_ _ | refine blk_drew ?_ | refine blk_alloc ?_ _)); refine blk_far ?_ NB205_218.out _; (with_reducible repeat (first | refine blk_drewN ?_ _ | refine blk_drew ?_ | refine blk_alloc ?_ _)); refine blk_far ?_ NB205_218.out _; (with_reducible repeat (first | refine blk_drewN ?_ _ | refine blk_drew ?_ | refine blk_alloc ?_ _)); exact BK205.out)) : gb220 ≠ gb205)); have n13_ := Aside0.mk ((by rw [hg]; exact Nat.ne_of_lt (blk_lt (g := gb213) (o := .cells #[.slice Ao18 t206.length co18, .slice (some ad214) t209.length co21] 26 (0, 0)) (by (with_reducible repeat (first | refine blk_drewN ?_ _ | refine blk_drew ?_ | refine blk_alloc ?_ _)); refine blk_far ?_ NB213_218.out _; (with_reducible repeat (first | refine blk_drewN ?_ _ | refine blk_drew ?_ | refine blk_alloc ?_ _)); refine blk_far ?_ NB213_218.out _; (with_reducible repeat (first | refine blk_drewN ?_ _ | refine blk_drew ?_ | refine blk_alloc ?_ _)); refine blk_far ?_ NB213_218.out _; (with_reducible repeat (first | refine blk_drewN ?_ _ | refine blk_drew ?_ | refine blk_alloc ?_ _)); refine blk_far ?_ NB213_218.out _; (with_reducible repeat (first | refine blk_drewN ?_ _ | refine blk_drew ?_ | refine blk_alloc ?_ _)); exact BK213.out)) : gb213 ≠ gb220)); have n14_ := Aside0.mk ((by rw [hg]; exact Nat.ne_of_gt (blk_lt (g := gb213) (o := .cells #[.slice Ao18 t206.length co18, .slice (some ad214) t209.length co21] 26 (0, 0)) (by (with_reducible repeat (first | refine blk_drewN ?_ _ | refine blk_drew ?_ | refine blk_alloc ?_ _)); refine blk_far ?_ NB213_218.out _; (with_reducible repeat (first | refine blk_drewN ?_ _ | refine blk_drew ?_ | refine blk_alloc ?_ _)); refine blk_far ?_ NB213_218.out _; (with_reducible repeat (first | refine blk_drewN ?_ _ | refine blk_drew ?_ | refine blk_alloc ?_ _)); refine blk_far ?_ NB213_218.out _; (with_reducible repeat (first | refine blk_drewN ?_ _ | refine blk_drew ?_ | refine blk_alloc ?_ _)); refine blk_far ?_ NB213_218.out _; (with_reducible repeat (first | refine blk_drewN ?_ _ | refine blk_drew ?_ | refine blk_alloc ?_ _)); exact BK213.out)) : gb220 ≠ gb213)); have n15_ := Aside0.mk ((by rw [hg]; exact Nat.ne_of_lt (blk_lt (g := gb218) (o := .cells #[.int .i64 ((rd_T33 t201 x9_4).f0), .int .i64 ((rd_T33 t201 x9_4).f1), .int .i64 ((rd_T33 t201 x9_4).f2), .string ((rd_T33 t201 x9_4).f3)] 33 (0, 0)) (by (with_reducible repeat (first | refine blk_drewN ?_ _ | refine blk_drew ?_ | refine blk_alloc ?_ _)); refine blk_put (cs := #[.int .i64 ((rd_T33 t201 x9_4).f0), .int .i64 ((rd_T33 t201 x9_4).f1), .int .i64 ((rd_T33 t201 x9_4).f2), .string (⟨#[]⟩ : ByteArray)]) ?_ 3 _ rfl; (with_reducible repeat (first | refine blk_drewN ?_ _ | refine blk_drew ?_ | refine blk_alloc ?_ _)); refine blk_put (cs := #[.int .i64 ((rd_T33 t201 x9_4).f0), .int .i64 ((rd_T33 t201 x9_4).f1), .int .i64 0, .string (⟨#[]⟩ : ByteArray)]) ?_ 2 _ rfl; (with_reducible repeat (first | refine blk_drewN ?_ _ | refine blk_drew ?_ | refine blk_alloc ?_ _)); refine blk_put (cs := #[.int .i64 ((rd_T33 t201 x9_4).f0), .int .i64 0, .int .i64 0, .string (⟨#[]⟩ : ByteArray)]) ?_ 1 _ rfl; (with_reducible repeat (first | refine blk_drewN ?_ _ | refine blk_drew ?_ | refine blk_alloc ?_ _)); refine blk_put (cs := #[.int .i64 0, .int .i64 0, .int .i64 0, .string (⟨#[]⟩ : ByteArray)]) ?_ 0 _ rfl; (with_reducible repeat (first | refine blk_drewN ?_ _ | refine blk_drew ?_ | refine blk_alloc ?_ _)); exact BK218.out)) : gb218 ≠ gb220)); have n16_ := Aside0.mk ((by rw [hg]; exact Nat.ne_of_gt (blk_lt (g := gb218) (o := .cells #[.int .i64 ((rd_T33 t201 x9_4).f0), .int .i64 ((rd_T33 t201 x9_4).f1), .int .i64 ((rd_T33 t201 x9_4).f2), .string ((rd_T33 t201 x9_4).f3)] 33 (0, 0)) (by (with_reducible repeat (first | refine blk_drewN ?_ _ | refine blk_drew ?_ | refine blk_alloc ?_ _)); refine blk_put (cs := #[.int .i64 ((rd_T33 t201 x9_4).f0), .int .i64 ((rd_T33 t201 x9_4).f1), .int .i64 ((rd_T33 t201 x9_4).f2), .string (⟨#[]⟩ : ByteArray)]) ?_ 3 _ rfl; (with_reducible repeat (first | refine blk_drewN ?_ _ | refine blk_drew ?_ | refine blk_alloc ?_ _)); refine blk_put (cs := #[.int .i64 ((rd_T33 t201 x9_4).f0), .int .i64 ((rd_T33 t201 x9_4).f1), .int .i64 0, .string (⟨#[]⟩ : ByteArray)]) ?_ 2 _ rfl; (with_reducible repeat (first | refine blk_drewN ?_ _ | refine blk_drew ?_ | refine blk_alloc ?_ _)); refine blk_put (cs := #[.int .i64 ((rd_T33 t201 x9_4).f0), .int .i64 0, .int .i64 0, .string (⟨#[]⟩ : ByteArray)]) ?_ 1 _ rfl; (with_reducible repeat (first | refine blk_drewN ?_ _ | refine blk_drew ?_ | refine blk_alloc ?_ _)); refine blk_put (cs := #[.int .i64 0, .int .i64 0, .int .i64 0, .string (⟨#[]⟩ : ByteArray)]) ?_ 0 _ rfl; (with_reducible repeat (first | refine blk_drewN ?_ _ | refine blk_drew ?_ | refine blk_alloc ?_ _)); exact BK218.out)) : gb220 ≠ gb218)); clear HO_206000; clear HO_206001; clear HO_214000; clear HO_214001; clear BK205; clear BK213; clear BK218; clear HB; have HO_206000 := n0_; have HO_206001 := n1_; have HO_214000 := n2_; have HO_214001 := n3_; have BK205 := n4_; have BK213 := n5_; have BK218 := n6_; have HB := n7_; have BK220 := n8_; have GW220 := n9_; have GE220 := n10_; have NB205_220 := n11_; have NB220_205 := n12_; have NB213_220 := n13_; have NB220_213 := n14_; have NB218_220 := n15_; have NB220_218 := n16_; clear n0_ n1_ n2_ n3_ n4_ n5_ n6_ n7_ n8_ n9_ n10_ n11_ n12_ n13_ n14_ n15_ n16_; clear hb hbox hg; have hnb58 := NB220_205.out; have hnc58 := NB205_220.out; have hnb59 := NB220_213.out; have hnc59 := NB213_220.out; have hnb60 := NB220_218.out; have hnc60 := NB218_220.out; have hcz61_0 : w57.cell? ⟨gb220, 0, none⟩ = some (.int .i64 0) := (blk_cell BK220.out 0).trans rfl; have hcz61_1 : w57.cell? ⟨gb220, 1, none⟩ = some (.int .i64 0) := (blk_cell BK220.out 1).trans rfl; have hcz61_2 : w57.cell? ⟨gb220, 2, none⟩ = some (.int .i64 0) := (blk_cell BK220.out 2).trans rfl; have hcz61_3 : w57.cell? ⟨gb220, 3, none⟩ = some (.string (⟨#[]⟩ : ByteArray)) := (blk_cell BK220.out 3).trans rfl; have hfz61_0 := blk_frozen BK220.out 0; have hfz61_1 := blk_frozen BK220.out 1; have hfz61_2 := blk_frozen BK220.out 2; have hfz61_3 := blk_frozen BK220.out 3)))
                                      (try simp only [Act.put, List.setIfInBounds_toArray, List.set_cons_zero, List.set_cons_succ])
                                      go_cut [12] (fun v12 wc => ∃ (kq : Nat) (x12_48 : Int), v12 = .int .i64 x12_48 ∧ Aside0 (topiarylaw13_ParserNests.j4 kq t196 x8_27 x9_4 x12_48 t198 t201 t206 t209 ((rd_T33 t201 x9_4).f0) ((rd_T33 t201 x9_4).f1) ((rd_T33 t201 x9_4).f2) ((rd_T33 t201 x9_4).f3) ((rd_T33 t209 (ji46)).f0) ((rd_T33 t209 (ji46)).f1) ((rd_T33 t209 (ji46)).f2) ((rd_T33 t209 (ji46)).f3) = some r) ∧ Aside0 (kq ≤ k4) ∧ Aside0 (Kd.R Kd.string 9 wc w.heap.size (fun k_ => some k_ ≠ ((.slice Ao18 t206.length co18) : Value).ownBlock) (.slice Ao13 t198.length co13) t198) ∧ Aside0 (Kd.R k33 33 wc w.heap.size (fun k_ => some k_ ≠ ((.slice (some ad214) t209.length co21) : Value).ownBlock ∧ k_ ≠ gb218 ∧ k_ ≠ gb220) (.slice (some ad217) t201.length co15) t201) ∧ Aside0 (Kd.R Kd.string 9 wc w.heap.size (fun k_ => some k_ ≠ ((.slice Ao13 t198.length co13) : Value).ownBlock) (.slice Ao18 t206.length co18) t206) ∧ Aside0 (Kd.R k33 33 wc w.heap.size (fun k_ => some k_ ≠ ((.slice (some ad217) t201.length co15) : Value).ownBlock ∧ k_ ≠ gb218 ∧ k_ ≠ gb220) (.slice (some ad214) t209.length co21) t209) ∧ Aside0 (wc.heap[gb205]? = some (.cells #[(.slice Ao13 t198.length co13), (.slice (some ad217) t201.length co15)] 26 (0, 0))) ∧ Aside0 (wc.heap[gb213]? = some (.cells #[(.slice Ao18 t206.length co18), (.slice (some ad214) t209.length co21)] 26 (0, 0))) ∧ Aside0 (wc.heap[gb218]? = some (.cells #[.int .i64 ((rd_T33 t201 x9_4).f0), .int .i64 ((rd_T33 t201 x9_4).f1), .int .i64 ((rd_T33 t201 x9_4).f2), .string ((rd_T33 t201 x9_4).f3)] 33 (0, 0))) ∧ Aside0 (wc.heap[gb220]? = some (.cells #[.int .i64 ((rd_T33 t209 (ji46)).f0), .int .i64 ((rd_T33 t209 (ji46)).f1), .int .i64 ((rd_T33 t209 (ji46)).f2), .string ((rd_T33 t209 (ji46)).f3)] 33 (0, 0))) ∧ Aside0 (Below w.heap.size w wc))
                                      case first =>
                                        have H := HC49.out
                                        clear HC49
                                        by_cases c62 : x9_4 > 0
                                        · rw [if_pos c62] at H
                                          have c62b0 : decide (0 < x9_4) = true := decide_eq_true c62
                                          clear c62
                                          (first | rw [c62b0] | (simp only [i64_w, i32_w]; rw [c62b0]) | skip)
                                          have H' := Aside0.mk H
                                          clear H
                                          have hnb63 := NB218_205.out
                                          have hnc63 := NB205_218.out
                                          have hnb64 := NB218_213.out
                                          have hnc64 := NB213_218.out
                                          have hnb65 := NB218_220.out
                                          have hnc65 := NB220_218.out
                                          have hcz66_0 : w57.cell? ⟨gb218, 0, none⟩ = some (.int .i64 ((rd_T33 t201 x9_4).f0)) := (blk_cell BK218.out 0).trans rfl
                                          have hcz66_1 : w57.cell? ⟨gb218, 1, none⟩ = some (.int .i64 ((rd_T33 t201 x9_4).f1)) := (blk_cell BK218.out 1).trans rfl
                                          have hcz66_2 : w57.cell? ⟨gb218, 2, none⟩ = some (.int .i64 ((rd_T33 t201 x9_4).f2)) := (blk_cell BK218.out 2).trans rfl
                                          have hcz66_3 : w57.cell? ⟨gb218, 3, none⟩ = some (.string ((rd_T33 t201 x9_4).f3)) := (blk_cell BK218.out 3).trans rfl
                                          have hfz66_0 := blk_frozen BK218.out 0
                                          have hfz66_1 := blk_frozen BK218.out 1
                                          have hfz66_2 := blk_frozen BK218.out 2
                                          have hfz66_3 := blk_frozen BK218.out 3
                                          go_wp2
                                          repeat (go_quiet (fail); try go_wp2)
                                          go_meet
                                          case rel => exact ⟨_, (wrap64 (((rd_T33 t201 x9_4).f2) + x8_27)), (by first | rfl | (simp; done) | (simp [*]; done)), H', ⟨by have := HJ8.out; have := HJ27.out; have := HJ31.out; have := HK4.out; first | omega | exact Nat.le_refl _⟩, ⟨by (with_reducible repeat (first | apply Kd.R_alloc | apply Kd.R_drewN | apply Kd.R_drew)); exact Kd.R_mono (Kd.R_far (p := ⟨gb220, 3, none⟩) (Kd.R_far (p := ⟨gb220, 2, none⟩) (Kd.R_far (p := ⟨gb220, 1, none⟩) (Kd.R_far (p := ⟨gb220, 0, none⟩) (Kd.R_types HO_206000.out BK220.out (by decide)) (fun _ hk => hk.2) (.int .i64 ((rd_T33 t209 (ji46)).f0))) (fun _ hk => hk.2) (.int .i64 ((rd_T33 t209 (ji46)).f1))) (fun _ hk => hk.2) (.int .i64 ((rd_T33 t209 (ji46)).f2))) (fun _ hk => hk.2) (.string ((rd_T33 t209 (ji46)).f3))) (fun _ hk => hk.1)⟩, ⟨by (with_reducible repeat (first | apply Kd.R_alloc | apply Kd.R_drewN | apply Kd.R_drew)); exact Kd.R_mono (Kd.R_far (p := ⟨gb220, 3, none⟩) (Kd.R_far (p := ⟨gb220, 2, none⟩) (Kd.R_far (p := ⟨gb220, 1, none⟩) (Kd.R_far (p := ⟨gb220, 0, none⟩) (Kd.R_mono HO_206001.out (fun k_ hk => (⟨hk, hk.2⟩ : _ ∧ k_ ≠ gb220))) (fun _ hk => hk.2) (.int .i64 ((rd_T33 t209 (ji46)).f0))) (fun _ hk => hk.2) (.int .i64 ((rd_T33 t209 (ji46)).f1))) (fun _ hk => hk.2) (.int .i64 ((rd_T33 t209 (ji46)).f2))) (fun _ hk => hk.2) (.string ((rd_T33 t209 (ji46)).f3))) (fun _ hk => ⟨hk.1.1.1, ⟨hk.1.1.2, hk.1.2⟩⟩)⟩, ⟨by (with_reducible repeat (first | apply Kd.R_alloc | apply Kd.R_drewN | apply Kd.R_drew)); exact Kd.R_mono (Kd.R_far (p := ⟨gb220, 3, none⟩) (Kd.R_far (p := ⟨gb220, 2, none⟩) (Kd.R_far (p := ⟨gb220, 1, none⟩) (Kd.R_far (p := ⟨gb220, 0, none⟩) (Kd.R_types HO_214000.out BK220.out (by decide)) (fun _ hk => hk.2) (.int .i64 ((rd_T33 t209 (ji46)).f0))) (fun _ hk => hk.2) (.int .i64 ((rd_T33 t209 (ji46)).f1))) (fun _ hk => hk.2) (.int .i64 ((rd_T33 t209 (ji46)).f2))) (fun _ hk => hk.2) (.string ((rd_T33 t209 (ji46)).f3))) (fun _ hk => hk.1)⟩, ⟨by (with_reducible repeat (first | apply Kd.R_alloc | apply Kd.R_drewN | apply Kd.R_drew)); exact Kd.R_mono (Kd.R_far (p := ⟨gb220, 3, none⟩) (Kd.R_far (p := ⟨gb220, 2, none⟩) (Kd.R_far (p := ⟨gb220, 1, none⟩) (Kd.R_far (p := ⟨gb220, 0, none⟩) (Kd.R_mono HO_214001.out (fun k_ hk => (⟨hk, hk.2⟩ : _ ∧ k_ ≠ gb220))) (fun _ hk => hk.2) (.int .i64 ((rd_T33 t209 (ji46)).f0))) (fun _ hk => hk.2) (.int .i64 ((rd_T33 t209 (ji46)).f1))) (fun _ hk => hk.2) (.int .i64 ((rd_T33 t209 (ji46)).f2))) (fun _ hk => hk.2) (.string ((rd_T33 t209 (ji46)).f3))) (fun _ hk => ⟨hk.1.1.1, ⟨hk.1.1.2, hk.1.2⟩⟩)⟩, ⟨by (with_reducible repeat (first | refine blk_drewN ?_ _ | refine blk_drew ?_ | refine blk_alloc ?_ _)); refine blk_far ?_ NB205_220.out _; (with_reducible repeat (first | refine blk_drewN ?_ _ | refine blk_drew ?_ | refine blk_alloc ?_ _)); refine blk_far ?_ NB205_220.out _; (with_reducible repeat (first | refine blk_drewN ?_ _ | refine blk_drew ?_ | refine blk_alloc ?_ _)); refine blk_far ?_ NB205_220.out _; (with_reducible repeat (first | refine blk_drewN ?_ _ | refine blk_drew ?_ | refine blk_alloc ?_ _)); refine blk_far ?_ NB205_220.out _; (with_reducible repeat (first | refine blk_drewN ?_ _ | refine blk_drew ?_ | refine blk_alloc ?_ _)); exact BK205.out⟩, ⟨by (with_reducible repeat (first | refine blk_drewN ?_ _ | refine blk_drew ?_ | refine blk_alloc ?_ _)); refine blk_far ?_ NB213_220.out _; (with_reducible repeat (first | refine blk_drewN ?_ _ | refine blk_drew ?_ | refine blk_alloc ?_ _)); refine blk_far ?_ NB213_220.out _; (with_reducible repeat (first | refine blk_drewN ?_ _ | refine blk_drew ?_ | refine blk_alloc ?_ _)); refine blk_far ?_ NB213_220.out _; (with_reducible repeat (first | refine blk_drewN ?_ _ | refine blk_drew ?_ | refine blk_alloc ?_ _)); refine blk_far ?_ NB213_220.out _; (with_reducible repeat (first | refine blk_drewN ?_ _ | refine blk_drew ?_ | refine blk_alloc ?_ _)); exact BK213.out⟩, ⟨by (with_reducible repeat (first | refine blk_drewN ?_ _ | refine blk_drew ?_ | refine blk_alloc ?_ _)); refine blk_far ?_ NB218_220.out _; (with_reducible repeat (first | refine blk_drewN ?_ _ | refine blk_drew ?_ | refine blk_alloc ?_ _)); refine blk_far ?_ NB218_220.out _; (with_reducible repeat (first | refine blk_drewN ?_ _ | refine blk_drew ?_ | refine blk_alloc ?_ _)); refine blk_far ?_ NB218_220.out _; (with_reducible repeat (first | refine blk_drewN ?_ _ | refine blk_drew ?_ | refine blk_alloc ?_ _)); refine blk_far ?_ NB218_220.out _; (with_reducible repeat (first | refine blk_drewN ?_ _ | refine blk_drew ?_ | refine blk_alloc ?_ _)); exact BK218.out⟩, ⟨by (with_reducible repeat (first | refine blk_drewN ?_ _ | refine blk_drew ?_ | refine blk_alloc ?_ _)); refine blk_put (cs := #[.int .i64 ((rd_T33 t209 (ji46)).f0), .int .i64 ((rd_T33 t209 (ji46)).f1), .int .i64 ((rd_T33 t209 (ji46)).f2), .string (⟨#[]⟩ : ByteArray)]) ?_ 3 _ rfl; (with_reducible repeat (first | refine blk_drewN ?_ _ | refine blk_drew ?_ | refine blk_alloc ?_ _)); refine blk_put (cs := #[.int .i64 ((rd_T33 t209 (ji46)).f0), .int .i64 ((rd_T33 t209 (ji46)).f1), .int .i64 0, .string (⟨#[]⟩ : ByteArray)]) ?_ 2 _ rfl; (with_reducible repeat (first | refine blk_drewN ?_ _ | refine blk_drew ?_ | refine blk_alloc ?_ _)); refine blk_put (cs := #[.int .i64 ((rd_T33 t209 (ji46)).f0), .int .i64 0, .int .i64 0, .string (⟨#[]⟩ : ByteArray)]) ?_ 1 _ rfl; (with_reducible repeat (first | refine blk_drewN ?_ _ | refine blk_drew ?_ | refine blk_alloc ?_ _)); refine blk_put (cs := #[.int .i64 0, .int .i64 0, .int .i64 0, .string (⟨#[]⟩ : ByteArray)]) ?_ 0 _ rfl; (with_reducible repeat (first | refine blk_drewN ?_ _ | refine blk_drew ?_ | refine blk_alloc ?_ _)); exact BK220.out⟩, ⟨by repeat (first | (with_reducible first | exact HB.out | apply below_alloc | apply pw_below_drewN | apply below_drew1 | refine below_set ?_ GE205.out | refine below_set ?_ GE213.out | refine below_set ?_ GE218.out | refine below_set ?_ GE220.out) | exact HB.out)⟩⟩
                                        · rw [if_neg c62] at H
                                          have c62b0 : decide (0 < x9_4) = false := decide_eq_false c62
                                          clear c62
                                          (first | rw [c62b0] | (simp only [i64_w, i32_w]; rw [c62b0]) | skip)
                                          have H' := Aside0.mk H
                                          clear H
                                          go_wp2
                                          repeat (go_quiet (fail); try go_wp2)
                                          go_meet
                                          case rel => exact ⟨_, (0), (by first | rfl | (simp; done) | (simp [*]; done)), H', ⟨by have := HJ8.out; have := HJ27.out; have := HJ31.out; have := HK4.out; first | omega | exact Nat.le_refl _⟩, ⟨by (with_reducible repeat (first | apply Kd.R_alloc | apply Kd.R_drewN | apply Kd.R_drew)); exact Kd.R_mono (Kd.R_far (p := ⟨gb220, 3, none⟩) (Kd.R_far (p := ⟨gb220, 2, none⟩) (Kd.R_far (p := ⟨gb220, 1, none⟩) (Kd.R_far (p := ⟨gb220, 0, none⟩) (Kd.R_types HO_206000.out BK220.out (by decide)) (fun _ hk => hk.2) (.int .i64 ((rd_T33 t209 (ji46)).f0))) (fun _ hk => hk.2) (.int .i64 ((rd_T33 t209 (ji46)).f1))) (fun _ hk => hk.2) (.int .i64 ((rd_T33 t209 (ji46)).f2))) (fun _ hk => hk.2) (.string ((rd_T33 t209 (ji46)).f3))) (fun _ hk => hk.1)⟩, ⟨by (with_reducible repeat (first | apply Kd.R_alloc | apply Kd.R_drewN | apply Kd.R_drew)); exact Kd.R_mono (Kd.R_far (p := ⟨gb220, 3, none⟩) (Kd.R_far (p := ⟨gb220, 2, none⟩) (Kd.R_far (p := ⟨gb220, 1, none⟩) (Kd.R_far (p := ⟨gb220, 0, none⟩) (Kd.R_mono HO_206001.out (fun k_ hk => (⟨hk, hk.2⟩ : _ ∧ k_ ≠ gb220))) (fun _ hk => hk.2) (.int .i64 ((rd_T33 t209 (ji46)).f0))) (fun _ hk => hk.2) (.int .i64 ((rd_T33 t209 (ji46)).f1))) (fun _ hk => hk.2) (.int .i64 ((rd_T33 t209 (ji46)).f2))) (fun _ hk => hk.2) (.string ((rd_T33 t209 (ji46)).f3))) (fun _ hk => ⟨hk.1.1.1, ⟨hk.1.1.2, hk.1.2⟩⟩)⟩, ⟨by (with_reducible repeat (first | apply Kd.R_alloc | apply Kd.R_drewN | apply Kd.R_drew)); exact Kd.R_mono (Kd.R_far (p := ⟨gb220, 3, none⟩) (Kd.R_far (p := ⟨gb220, 2, none⟩) (Kd.R_far (p := ⟨gb220, 1, none⟩) (Kd.R_far (p := ⟨gb220, 0, none⟩) (Kd.R_types HO_214000.out BK220.out (by decide)) (fun _ hk => hk.2) (.int .i64 ((rd_T33 t209 (ji46)).f0))) (fun _ hk => hk.2) (.int .i64 ((rd_T33 t209 (ji46)).f1))) (fun _ hk => hk.2) (.int .i64 ((rd_T33 t209 (ji46)).f2))) (fun _ hk => hk.2) (.string ((rd_T33 t209 (ji46)).f3))) (fun _ hk => hk.1)⟩, ⟨by (with_reducible repeat (first | apply Kd.R_alloc | apply Kd.R_drewN | apply Kd.R_drew)); exact Kd.R_mono (Kd.R_far (p := ⟨gb220, 3, none⟩) (Kd.R_far (p := ⟨gb220, 2, none⟩) (Kd.R_far (p := ⟨gb220, 1, none⟩) (Kd.R_far (p := ⟨gb220, 0, none⟩) (Kd.R_mono HO_214001.out (fun k_ hk => (⟨hk, hk.2⟩ : _ ∧ k_ ≠ gb220))) (fun _ hk => hk.2) (.int .i64 ((rd_T33 t209 (ji46)).f0))) (fun _ hk => hk.2) (.int .i64 ((rd_T33 t209 (ji46)).f1))) (fun _ hk => hk.2) (.int .i64 ((rd_T33 t209 (ji46)).f2))) (fun _ hk => hk.2) (.string ((rd_T33 t209 (ji46)).f3))) (fun _ hk => ⟨hk.1.1.1, ⟨hk.1.1.2, hk.1.2⟩⟩)⟩, ⟨by (with_reducible repeat (first | refine blk_drewN ?_ _ | refine blk_drew ?_ | refine blk_alloc ?_ _)); refine blk_far ?_ NB205_220.out _; (with_reducible repeat (first | refine blk_drewN ?_ _ | refine blk_drew ?_ | refine blk_alloc ?_ _)); refine blk_far ?_ NB205_220.out _; (with_reducible repeat (first | refine blk_drewN ?_ _ | refine blk_drew ?_ | refine blk_alloc ?_ _)); refine blk_far ?_ NB205_220.out _; (with_reducible repeat (first | refine blk_drewN ?_ _ | refine blk_drew ?_ | refine blk_alloc ?_ _)); refine blk_far ?_ NB205_220.out _; (with_reducible repeat (first | refine blk_drewN ?_ _ | refine blk_drew ?_ | refine blk_alloc ?_ _)); exact BK205.out⟩, ⟨by (with_reducible repeat (first | refine blk_drewN ?_ _ | refine blk_drew ?_ | refine blk_alloc ?_ _)); refine blk_far ?_ NB213_220.out _; (with_reducible repeat (first | refine blk_drewN ?_ _ | refine blk_drew ?_ | refine blk_alloc ?_ _)); refine blk_far ?_ NB213_220.out _; (with_reducible repeat (first | refine blk_drewN ?_ _ | refine blk_drew ?_ | refine blk_alloc ?_ _)); refine blk_far ?_ NB213_220.out _; (with_reducible repeat (first | refine blk_drewN ?_ _ | refine blk_drew ?_ | refine blk_alloc ?_ _)); refine blk_far ?_ NB213_220.out _; (with_reducible repeat (first | refine blk_drewN ?_ _ | refine blk_drew ?_ | refine blk_alloc ?_ _)); exact BK213.out⟩, ⟨by (with_reducible repeat (first | refine blk_drewN ?_ _ | refine blk_drew ?_ | refine blk_alloc ?_ _)); refine blk_far ?_ NB218_220.out _; (with_reducible repeat (first | refine blk_drewN ?_ _ | refine blk_drew ?_ | refine blk_alloc ?_ _)); refine blk_far ?_ NB218_220.out _; (with_reducible repeat (first | refine blk_drewN ?_ _ | refine blk_drew ?_ | refine blk_alloc ?_ _)); refine blk_far ?_ NB218_220.out _; (with_reducible repeat (first | refine blk_drewN ?_ _ | refine blk_drew ?_ | refine blk_alloc ?_ _)); refine blk_far ?_ NB218_220.out _; (with_reducible repeat (first | refine blk_drewN ?_ _ | refine blk_drew ?_ | refine blk_alloc ?_ _)); exact BK218.out⟩, ⟨by (with_reducible repeat (first | refine blk_drewN ?_ _ | refine blk_drew ?_ | refine blk_alloc ?_ _)); refine blk_put (cs := #[.int .i64 ((rd_T33 t209 (ji46)).f0), .int .i64 ((rd_T33 t209 (ji46)).f1), .int .i64 ((rd_T33 t209 (ji46)).f2), .string (⟨#[]⟩ : ByteArray)]) ?_ 3 _ rfl; (with_reducible repeat (first | refine blk_drewN ?_ _ | refine blk_drew ?_ | refine blk_alloc ?_ _)); refine blk_put (cs := #[.int .i64 ((rd_T33 t209 (ji46)).f0), .int .i64 ((rd_T33 t209 (ji46)).f1), .int .i64 0, .string (⟨#[]⟩ : ByteArray)]) ?_ 2 _ rfl; (with_reducible repeat (first | refine blk_drewN ?_ _ | refine blk_drew ?_ | refine blk_alloc ?_ _)); refine blk_put (cs := #[.int .i64 ((rd_T33 t209 (ji46)).f0), .int .i64 0, .int .i64 0, .string (⟨#[]⟩ : ByteArray)]) ?_ 1 _ rfl; (with_reducible repeat (first | refine blk_drewN ?_ _ | refine blk_drew ?_ | refine blk_alloc ?_ _)); refine blk_put (cs := #[.int .i64 0, .int .i64 0, .int .i64 0, .string (⟨#[]⟩ : ByteArray)]) ?_ 0 _ rfl; (with_reducible repeat (first | refine blk_drewN ?_ _ | refine blk_drew ?_ | refine blk_alloc ?_ _)); exact BK220.out⟩, ⟨by repeat (first | (with_reducible first | exact HB.out | apply below_alloc | apply pw_below_drewN | apply below_drew1 | refine below_set ?_ GE205.out | refine below_set ?_ GE213.out | refine below_set ?_ GE218.out | refine below_set ?_ GE220.out) | exact HB.out)⟩⟩
                                      case rest =>
                                        clear HC49
                                        try clear c1
                                        try clear c2
                                        try clear p2
                                        try clear q2
                                        try clear hx2
                                        try clear qi2
                                        try clear c3
                                        try clear c4
                                        try clear c5
                                        try clear c5b0
                                        try clear c5b1
                                        try clear c6
                                        try clear c6b0
                                        try clear c6b1
                                        try clear c6b2
                                        try clear p6
                                        try clear c7
                                        try clear c7b0
                                        try clear c7b1
                                        try clear c7b2
                                        try clear c19
                                        try clear p21
                                        try clear q21
                                        try clear hx21
                                        try clear qi21
                                        try clear c22
                                        try clear c22b0
                                        try clear c22b1
                                        try clear c23
                                        try clear c26
                                        try clear c27
                                        try clear c27b0
                                        try clear c27b1
                                        try clear c29
                                        try clear c31
                                        try clear c31b0
                                        try clear c31b1
                                        try clear c33
                                        try clear c33b0
                                        try clear c34
                                        try clear c37
                                        try clear c37b0
                                        try clear c37b1
                                        try clear c38
                                        try clear c38b0
                                        try clear c39
                                        try clear c39b0
                                        try clear c40
                                        try clear c43
                                        try clear c44
                                        try clear c44b0
                                        try clear c45
                                        try clear c45b0
                                        try clear c47
                                        try clear c47b0
                                        try clear c48
                                        try clear c48b0
                                        try clear c50
                                        try clear c53
                                        try clear c54
                                        try clear c58
                                        try clear c59
                                        try clear c60
                                        try clear c62
                                        try clear c62b0
                                        try clear c63
                                        try clear c64
                                        try clear p64
                                        try clear c65
                                        try clear hcz14_0
                                        try clear hcz14_1
                                        try clear hcz20_0
                                        try clear hcz20_1
                                        try clear hcz24_0
                                        try clear hcz24_1
                                        try clear hcz25_0
                                        try clear hcz25_1
                                        try clear hcz30_0
                                        try clear hcz30_1
                                        try clear hcz35_0
                                        try clear hcz35_1
                                        try clear hcz36_0
                                        try clear hcz36_1
                                        try clear hcz41_0
                                        try clear hcz41_1
                                        try clear hcz42_0
                                        try clear hcz42_1
                                        try clear hcz51_0
                                        try clear hcz51_1
                                        try clear hcz55_0
                                        try clear hcz55_1
                                        try clear hcz55_2
                                        try clear hcz55_3
                                        try clear hcz56_0
                                        try clear hcz56_1
                                        try clear hcz61_0
                                        try clear hcz61_1
                                        try clear hcz61_2
                                        try clear hcz61_3
                                        try clear hcz66_0
                                        try clear hcz66_1
                                        try clear hcz66_2
                                        try clear hcz66_3
                                        try clear hfz14_0
                                        try clear hfz14_1
                                        try clear hfz20_0
                                        try clear hfz20_1
                                        try clear hfz24_0
                                        try clear hfz24_1
                                        try clear hfz25_0
                                        try clear hfz25_1
                                        try clear hfz30_0
                                        try clear hfz30_1
                                        try clear hfz35_0
                                        try clear hfz35_1
                                        try clear hfz36_0
                                        try clear hfz36_1
                                        try clear hfz41_0
                                        try clear hfz41_1
                                        try clear hfz42_0
                                        try clear hfz42_1
                                        try clear hfz51_0
                                        try clear hfz51_1
                                        try clear hfz55_0
                                        try clear hfz55_1
                                        try clear hfz55_2
                                        try clear hfz55_3
                                        try clear hfz56_0
                                        try clear hfz56_1
                                        try clear hfz61_0
                                        try clear hfz61_1
                                        try clear hfz61_2
                                        try clear hfz61_3
                                        try clear hfz66_0
                                        try clear hfz66_1
                                        try clear hfz66_2
                                        try clear hfz66_3
                                        try clear hx214_0
                                        try clear hx214_1
                                        try clear hx214_2
                                        try clear hx214_3
                                        try clear hx215_0
                                        try clear hx215_1
                                        try clear hx215_2
                                        try clear hx215_3
                                        try clear hx216_0
                                        try clear hx217_0
                                        try clear hx217_1
                                        try clear hx217_2
                                        try clear hx217_3
                                        try clear hx219_0
                                        try clear hx219_1
                                        try clear hx219_2
                                        try clear hx219_3
                                        try clear p2
                                        try clear p21
                                        try clear p214
                                        try clear p215
                                        try clear p216
                                        try clear p217
                                        try clear p219
                                        try clear p6
                                        try clear q2
                                        try clear q21
                                        try clear q214
                                        try clear q215
                                        try clear q216
                                        try clear q217
                                        try clear q219
                                        obtain ⟨kq, x12_48, rfl, HA, HJ48, HO_206000, HO_206001, HO_214000, HO_214001, BK205, BK213, BK218, BK220, HB⟩ := hcut
                                        cases kq with
                                        | zero => exact absurd HA.out (by simp [topiarylaw13_ParserNests.j4])
                                        | succ kj48 =>
                                          have H := HA.out
                                          clear HA
                                          simp only [topiarylaw13_ParserNests.j4] at H
                                          have HC67 := Aside0.mk H
                                          clear H
                                          go_upto_region 22 with (fail)
                                          repeat (go_quiet (fail); go_upto_region 22 with (fail))
                                          go_cut [112] (fun v112 wc => ∃ (kq : Nat) (x112_66 : Bool), v112 = .bool x112_66 ∧ Aside0 (topiarylaw13_ParserNests.j5 kq t196 x8_27 x9_4 x112_66 t198 t201 t206 t209 ((rd_T33 t201 x9_4).f0) ((rd_T33 t201 x9_4).f1) ((rd_T33 t201 x9_4).f2) ((rd_T33 t201 x9_4).f3) ((rd_T33 t209 (ji46)).f0) ((rd_T33 t209 (ji46)).f1) ((rd_T33 t209 (ji46)).f2) ((rd_T33 t209 (ji46)).f3) = some r) ∧ Aside0 (kq ≤ kj48) ∧ Aside0 (Kd.R Kd.string 9 wc w.heap.size (fun k_ => some k_ ≠ ((.slice Ao18 t206.length co18) : Value).ownBlock) (.slice Ao13 t198.length co13) t198) ∧ Aside0 (Kd.R k33 33 wc w.heap.size (fun k_ => some k_ ≠ ((.slice (some ad214) t209.length co21) : Value).ownBlock ∧ k_ ≠ gb218 ∧ k_ ≠ gb220) (.slice (some ad217) t201.length co15) t201) ∧ Aside0 (Kd.R Kd.string 9 wc w.heap.size (fun k_ => some k_ ≠ ((.slice Ao13 t198.length co13) : Value).ownBlock) (.slice Ao18 t206.length co18) t206) ∧ Aside0 (Kd.R k33 33 wc w.heap.size (fun k_ => some k_ ≠ ((.slice (some ad217) t201.length co15) : Value).ownBlock ∧ k_ ≠ gb218 ∧ k_ ≠ gb220) (.slice (some ad214) t209.length co21) t209) ∧ Aside0 (wc.heap[gb205]? = some (.cells #[(.slice Ao13 t198.length co13), (.slice (some ad217) t201.length co15)] 26 (0, 0))) ∧ Aside0 (wc.heap[gb213]? = some (.cells #[(.slice Ao18 t206.length co18), (.slice (some ad214) t209.length co21)] 26 (0, 0))) ∧ Aside0 (wc.heap[gb218]? = some (.cells #[.int .i64 ((rd_T33 t201 x9_4).f0), .int .i64 ((rd_T33 t201 x9_4).f1), .int .i64 ((rd_T33 t201 x9_4).f2), .string ((rd_T33 t201 x9_4).f3)] 33 (0, 0))) ∧ Aside0 (wc.heap[gb220]? = some (.cells #[.int .i64 ((rd_T33 t209 (ji46)).f0), .int .i64 ((rd_T33 t209 (ji46)).f1), .int .i64 ((rd_T33 t209 (ji46)).f2), .string ((rd_T33 t209 (ji46)).f3)] 33 (0, 0))) ∧ Aside0 (Below w.heap.size w wc))
                                          case first =>
                                            have H := HC67.out
                                            clear HC67
                                            by_cases c68 : ((rd_T33 t201 x9_4).f0) = ((rd_T33 t209 (ji46)).f0)
                                            · rw [if_pos c68] at H
                                              have c68b0 : (((rd_T33 t201 x9_4).f0) == ((rd_T33 t209 (ji46)).f0)) = true := beq_iff_eq.mpr c68
                                              have c68b1 : (((rd_T33 t201 x9_4).f0) != ((rd_T33 t209 (ji46)).f0)) = false := bne_eq_false_iff_eq.mpr c68
                                              clear c68
                                              (first | rw [c68b0] | (simp only [i64_w, i32_w]; rw [c68b0]) | skip)
                                              by_cases c69 : ((rd_T33 t201 x9_4).f3).toList = ((rd_T33 t209 (ji46)).f3).toList
                                              · rw [if_pos c69] at H
                                                have c69b0 : (((rd_T33 t201 x9_4).f3).toList == ((rd_T33 t209 (ji46)).f3).toList) = true := beq_iff_eq.mpr c69
                                                have c69b1 : (((rd_T33 t201 x9_4).f3).toList != ((rd_T33 t209 (ji46)).f3).toList) = false := bne_eq_false_iff_eq.mpr c69
                                                clear c69
                                                have H' := Aside0.mk H
                                                clear H
                                                have hnb70 := NB218_205.out
                                                have hnc70 := NB205_218.out
                                                have hnb71 := NB218_213.out
                                                have hnc71 := NB213_218.out
                                                have hnb72 := NB218_220.out
                                                have hnc72 := NB220_218.out
                                                have hcz73_0 : wc.cell? ⟨gb218, 0, none⟩ = some (.int .i64 ((rd_T33 t201 x9_4).f0)) := (blk_cell BK218.out 0).trans rfl
                                                have hcz73_1 : wc.cell? ⟨gb218, 1, none⟩ = some (.int .i64 ((rd_T33 t201 x9_4).f1)) := (blk_cell BK218.out 1).trans rfl
                                                have hcz73_2 : wc.cell? ⟨gb218, 2, none⟩ = some (.int .i64 ((rd_T33 t201 x9_4).f2)) := (blk_cell BK218.out 2).trans rfl
                                                have hcz73_3 : wc.cell? ⟨gb218, 3, none⟩ = some (.string ((rd_T33 t201 x9_4).f3)) := (blk_cell BK218.out 3).trans rfl
                                                have hfz73_0 := blk_frozen BK218.out 0
                                                have hfz73_1 := blk_frozen BK218.out 1
                                                have hfz73_2 := blk_frozen BK218.out 2
                                                have hfz73_3 := blk_frozen BK218.out 3
                                                have hnb74 := NB220_205.out
                                                have hnc74 := NB205_220.out
                                                have hnb75 := NB220_213.out
                                                have hnc75 := NB213_220.out
                                                have hcz76_0 : wc.cell? ⟨gb220, 0, none⟩ = some (.int .i64 ((rd_T33 t209 (ji46)).f0)) := (blk_cell BK220.out 0).trans rfl
                                                have hcz76_1 : wc.cell? ⟨gb220, 1, none⟩ = some (.int .i64 ((rd_T33 t209 (ji46)).f1)) := (blk_cell BK220.out 1).trans rfl
                                                have hcz76_2 : wc.cell? ⟨gb220, 2, none⟩ = some (.int .i64 ((rd_T33 t209 (ji46)).f2)) := (blk_cell BK220.out 2).trans rfl
                                                have hcz76_3 : wc.cell? ⟨gb220, 3, none⟩ = some (.string ((rd_T33 t209 (ji46)).f3)) := (blk_cell BK220.out 3).trans rfl
                                                have hfz76_0 := blk_frozen BK220.out 0
                                                have hfz76_1 := blk_frozen BK220.out 1
                                                have hfz76_2 := blk_frozen BK220.out 2
                                                have hfz76_3 := blk_frozen BK220.out 3
                                                go_wp2
                                                repeat (go_quiet (fail); try go_wp2)
                                                go_meet
                                                case rel => exact ⟨_, ((((rd_T33 t209 (ji46)).f2) != x12_48)), (by first | rfl | (simp; done) | (simp only [← hji46] <;> (first | rfl | simp)) | (simp [*]; done)), H', ⟨by have := HJ8.out; have := HJ27.out; have := HJ31.out; have := HK4.out; have := HJ48.out; first | omega | exact Nat.le_refl _⟩, ⟨by (with_reducible repeat (first | apply Kd.R_alloc | apply Kd.R_drewN | apply Kd.R_drew)); exact HO_206000.out⟩, ⟨by (with_reducible repeat (first | apply Kd.R_alloc | apply Kd.R_drewN | apply Kd.R_drew)); exact HO_206001.out⟩, ⟨by (with_reducible repeat (first | apply Kd.R_alloc | apply Kd.R_drewN | apply Kd.R_drew)); exact HO_214000.out⟩, ⟨by (with_reducible repeat (first | apply Kd.R_alloc | apply Kd.R_drewN | apply Kd.R_drew)); exact HO_214001.out⟩, ⟨by (with_reducible repeat (first | refine blk_drewN ?_ _ | refine blk_drew ?_ | refine blk_alloc ?_ _)); exact BK205.out⟩, ⟨by (with_reducible repeat (first | refine blk_drewN ?_ _ | refine blk_drew ?_ | refine blk_alloc ?_ _)); exact BK213.out⟩, ⟨by (with_reducible repeat (first | refine blk_drewN ?_ _ | refine blk_drew ?_ | refine blk_alloc ?_ _)); exact BK218.out⟩, ⟨by (with_reducible repeat (first | refine blk_drewN ?_ _ | refine blk_drew ?_ | refine blk_alloc ?_ _)); exact BK220.out⟩, ⟨by repeat (first | (with_reducible first | exact HB.out | apply below_alloc | apply pw_below_drewN | apply below_drew1 | refine below_set ?_ GE205.out | refine below_set ?_ GE213.out | refine below_set ?_ GE218.out | refine below_set ?_ GE220.out) | exact HB.out)⟩⟩
                                              · rw [if_neg c69] at H
                                                have c69b0 : (((rd_T33 t201 x9_4).f3).toList == ((rd_T33 t209 (ji46)).f3).toList) = false := beq_eq_false_iff_ne.mpr c69
                                                have c69b1 : (((rd_T33 t201 x9_4).f3).toList != ((rd_T33 t209 (ji46)).f3).toList) = true := bne_iff_ne.mpr c69
                                                have H' := Aside0.mk H
                                                clear H
                                                have hnb77 := NB218_205.out
                                                have hnc77 := NB205_218.out
                                                have hnb78 := NB218_213.out
                                                have hnc78 := NB213_218.out
                                                have hnb79 := NB218_220.out
                                                have hnc79 := NB220_218.out
                                                have hcz80_0 : wc.cell? ⟨gb218, 0, none⟩ = some (.int .i64 ((rd_T33 t201 x9_4).f0)) := (blk_cell BK218.out 0).trans rfl
                                                have hcz80_1 : wc.cell? ⟨gb218, 1, none⟩ = some (.int .i64 ((rd_T33 t201 x9_4).f1)) := (blk_cell BK218.out 1).trans rfl
                                                have hcz80_2 : wc.cell? ⟨gb218, 2, none⟩ = some (.int .i64 ((rd_T33 t201 x9_4).f2)) := (blk_cell BK218.out 2).trans rfl
                                                have hcz80_3 : wc.cell? ⟨gb218, 3, none⟩ = some (.string ((rd_T33 t201 x9_4).f3)) := (blk_cell BK218.out 3).trans rfl
                                                have hfz80_0 := blk_frozen BK218.out 0
                                                have hfz80_1 := blk_frozen BK218.out 1
                                                have hfz80_2 := blk_frozen BK218.out 2
                                                have hfz80_3 := blk_frozen BK218.out 3
                                                have hnb81 := NB220_205.out
                                                have hnc81 := NB205_220.out
                                                have hnb82 := NB220_213.out
                                                have hnc82 := NB213_220.out
                                                have hcz83_0 : wc.cell? ⟨gb220, 0, none⟩ = some (.int .i64 ((rd_T33 t209 (ji46)).f0)) := (blk_cell BK220.out 0).trans rfl
                                                have hcz83_1 : wc.cell? ⟨gb220, 1, none⟩ = some (.int .i64 ((rd_T33 t209 (ji46)).f1)) := (blk_cell BK220.out 1).trans rfl
                                                have hcz83_2 : wc.cell? ⟨gb220, 2, none⟩ = some (.int .i64 ((rd_T33 t209 (ji46)).f2)) := (blk_cell BK220.out 2).trans rfl
                                                have hcz83_3 : wc.cell? ⟨gb220, 3, none⟩ = some (.string ((rd_T33 t209 (ji46)).f3)) := (blk_cell BK220.out 3).trans rfl
                                                have hfz83_0 := blk_frozen BK220.out 0
                                                have hfz83_1 := blk_frozen BK220.out 1
                                                have hfz83_2 := blk_frozen BK220.out 2
                                                have hfz83_3 := blk_frozen BK220.out 3
                                                go_wp2
                                                repeat (go_quiet (fail); try go_wp2)
                                                go_meet
                                                case rel => exact ⟨_, (true), (by first | rfl | (simp; done) | (simp [*]; done)), H', ⟨by have := HJ8.out; have := HJ27.out; have := HJ31.out; have := HK4.out; have := HJ48.out; first | omega | exact Nat.le_refl _⟩, ⟨by (with_reducible repeat (first | apply Kd.R_alloc | apply Kd.R_drewN | apply Kd.R_drew)); exact HO_206000.out⟩, ⟨by (with_reducible repeat (first | apply Kd.R_alloc | apply Kd.R_drewN | apply Kd.R_drew)); exact HO_206001.out⟩, ⟨by (with_reducible repeat (first | apply Kd.R_alloc | apply Kd.R_drewN | apply Kd.R_drew)); exact HO_214000.out⟩, ⟨by (with_reducible repeat (first | apply Kd.R_alloc | apply Kd.R_drewN | apply Kd.R_drew)); exact HO_214001.out⟩, ⟨by (with_reducible repeat (first | refine blk_drewN ?_ _ | refine blk_drew ?_ | refine blk_alloc ?_ _)); exact BK205.out⟩, ⟨by (with_reducible repeat (first | refine blk_drewN ?_ _ | refine blk_drew ?_ | refine blk_alloc ?_ _)); exact BK213.out⟩, ⟨by (with_reducible repeat (first | refine blk_drewN ?_ _ | refine blk_drew ?_ | refine blk_alloc ?_ _)); exact BK218.out⟩, ⟨by (with_reducible repeat (first | refine blk_drewN ?_ _ | refine blk_drew ?_ | refine blk_alloc ?_ _)); exact BK220.out⟩, ⟨by repeat (first | (with_reducible first | exact HB.out | apply below_alloc | apply pw_below_drewN | apply below_drew1 | refine below_set ?_ GE205.out | refine below_set ?_ GE213.out | refine below_set ?_ GE218.out | refine below_set ?_ GE220.out) | exact HB.out)⟩⟩
                                            · rw [if_neg c68] at H
                                              have c68b0 : (((rd_T33 t201 x9_4).f0) == ((rd_T33 t209 (ji46)).f0)) = false := beq_eq_false_iff_ne.mpr c68
                                              have c68b1 : (((rd_T33 t201 x9_4).f0) != ((rd_T33 t209 (ji46)).f0)) = true := bne_iff_ne.mpr c68
                                              (first | rw [c68b0] | (simp only [i64_w, i32_w]; rw [c68b0]) | skip)
                                              have H' := Aside0.mk H
                                              clear H
                                              have hnb84 := NB218_205.out
                                              have hnc84 := NB205_218.out
                                              have hnb85 := NB218_213.out
                                              have hnc85 := NB213_218.out
                                              have hnb86 := NB218_220.out
                                              have hnc86 := NB220_218.out
                                              have hcz87_0 : wc.cell? ⟨gb218, 0, none⟩ = some (.int .i64 ((rd_T33 t201 x9_4).f0)) := (blk_cell BK218.out 0).trans rfl
                                              have hcz87_1 : wc.cell? ⟨gb218, 1, none⟩ = some (.int .i64 ((rd_T33 t201 x9_4).f1)) := (blk_cell BK218.out 1).trans rfl
                                              have hcz87_2 : wc.cell? ⟨gb218, 2, none⟩ = some (.int .i64 ((rd_T33 t201 x9_4).f2)) := (blk_cell BK218.out 2).trans rfl
                                              have hcz87_3 : wc.cell? ⟨gb218, 3, none⟩ = some (.string ((rd_T33 t201 x9_4).f3)) := (blk_cell BK218.out 3).trans rfl
                                              have hfz87_0 := blk_frozen BK218.out 0
                                              have hfz87_1 := blk_frozen BK218.out 1
                                              have hfz87_2 := blk_frozen BK218.out 2
                                              have hfz87_3 := blk_frozen BK218.out 3
                                              have hnb88 := NB220_205.out
                                              have hnc88 := NB205_220.out
                                              have hnb89 := NB220_213.out
                                              have hnc89 := NB213_220.out
                                              have hcz90_0 : wc.cell? ⟨gb220, 0, none⟩ = some (.int .i64 ((rd_T33 t209 (ji46)).f0)) := (blk_cell BK220.out 0).trans rfl
                                              have hcz90_1 : wc.cell? ⟨gb220, 1, none⟩ = some (.int .i64 ((rd_T33 t209 (ji46)).f1)) := (blk_cell BK220.out 1).trans rfl
                                              have hcz90_2 : wc.cell? ⟨gb220, 2, none⟩ = some (.int .i64 ((rd_T33 t209 (ji46)).f2)) := (blk_cell BK220.out 2).trans rfl
                                              have hcz90_3 : wc.cell? ⟨gb220, 3, none⟩ = some (.string ((rd_T33 t209 (ji46)).f3)) := (blk_cell BK220.out 3).trans rfl
                                              have hfz90_0 := blk_frozen BK220.out 0
                                              have hfz90_1 := blk_frozen BK220.out 1
                                              have hfz90_2 := blk_frozen BK220.out 2
                                              have hfz90_3 := blk_frozen BK220.out 3
                                              go_wp2
                                              repeat (go_quiet (fail); try go_wp2)
                                              go_meet
                                              case rel => exact ⟨_, (true), (by first | rfl | (simp; done) | (simp [*]; done)), H', ⟨by have := HJ8.out; have := HJ27.out; have := HJ31.out; have := HK4.out; have := HJ48.out; first | omega | exact Nat.le_refl _⟩, ⟨by (with_reducible repeat (first | apply Kd.R_alloc | apply Kd.R_drewN | apply Kd.R_drew)); exact HO_206000.out⟩, ⟨by (with_reducible repeat (first | apply Kd.R_alloc | apply Kd.R_drewN | apply Kd.R_drew)); exact HO_206001.out⟩, ⟨by (with_reducible repeat (first | apply Kd.R_alloc | apply Kd.R_drewN | apply Kd.R_drew)); exact HO_214000.out⟩, ⟨by (with_reducible repeat (first | apply Kd.R_alloc | apply Kd.R_drewN | apply Kd.R_drew)); exact HO_214001.out⟩, ⟨by (with_reducible repeat (first | refine blk_drewN ?_ _ | refine blk_drew ?_ | refine blk_alloc ?_ _)); exact BK205.out⟩, ⟨by (with_reducible repeat (first | refine blk_drewN ?_ _ | refine blk_drew ?_ | refine blk_alloc ?_ _)); exact BK213.out⟩, ⟨by (with_reducible repeat (first | refine blk_drewN ?_ _ | refine blk_drew ?_ | refine blk_alloc ?_ _)); exact BK218.out⟩, ⟨by (with_reducible repeat (first | refine blk_drewN ?_ _ | refine blk_drew ?_ | refine blk_alloc ?_ _)); exact BK220.out⟩, ⟨by repeat (first | (with_reducible first | exact HB.out | apply below_alloc | apply pw_below_drewN | apply below_drew1 | refine below_set ?_ GE205.out | refine below_set ?_ GE213.out | refine below_set ?_ GE218.out | refine below_set ?_ GE220.out) | exact HB.out)⟩⟩
                                          case rest =>
                                            clear HC67
                                            try clear c1
                                            try clear c2
                                            try clear p2
                                            try clear q2
                                            try clear hx2
                                            try clear qi2
                                            try clear c3
                                            try clear c4
                                            try clear c5
                                            try clear c5b0
                                            try clear c5b1
                                            try clear c6
                                            try clear c6b0
                                            try clear c6b1
                                            try clear c6b2
                                            try clear p6
                                            try clear c7
                                            try clear c7b0
                                            try clear c7b1
                                            try clear c7b2
                                            try clear c8
                                            try clear c19
                                            try clear p21
                                            try clear q21
                                            try clear hx21
                                            try clear qi21
                                            try clear c22
                                            try clear c22b0
                                            try clear c22b1
                                            try clear c23
                                            try clear c26
                                            try clear c27
                                            try clear c27b0
                                            try clear c27b1
                                            try clear c29
                                            try clear c31
                                            try clear c31b0
                                            try clear c31b1
                                            try clear c33
                                            try clear c33b0
                                            try clear c34
                                            try clear c37
                                            try clear c37b0
                                            try clear c37b1
                                            try clear c38
                                            try clear c38b0
                                            try clear c39
                                            try clear c39b0
                                            try clear c40
                                            try clear c43
                                            try clear c44
                                            try clear c44b0
                                            try clear c45
                                            try clear c45b0
                                            try clear c47
                                            try clear c47b0
                                            try clear c48
                                            try clear c48b0
                                            try clear c50
                                            try clear c53
                                            try clear c54
                                            try clear c58
                                            try clear c59
                                            try clear c60
                                            try clear c62
                                            try clear c62b0
                                            try clear c63
                                            try clear c64
                                            try clear p64
                                            try clear c65
                                            try clear c68
                                            try clear c68b0
                                            try clear c68b1
                                            try clear c69
                                            try clear c69b0
                                            try clear c69b1
                                            try clear c70
                                            try clear c71
                                            try clear c72
                                            try clear c74
                                            try clear c75
                                            try clear c77
                                            try clear c78
                                            try clear c79
                                            try clear c81
                                            try clear c82
                                            try clear c84
                                            try clear c85
                                            try clear c86
                                            try clear c88
                                            try clear c89
                                            try clear hcz14_0
                                            try clear hcz14_1
                                            try clear hcz20_0
                                            try clear hcz20_1
                                            try clear hcz24_0
                                            try clear hcz24_1
                                            try clear hcz25_0
                                            try clear hcz25_1
                                            try clear hcz30_0
                                            try clear hcz30_1
                                            try clear hcz35_0
                                            try clear hcz35_1
                                            try clear hcz36_0
                                            try clear hcz36_1
                                            try clear hcz41_0
                                            try clear hcz41_1
                                            try clear hcz42_0
                                            try clear hcz42_1
                                            try clear hcz51_0
                                            try clear hcz51_1
                                            try clear hcz55_0
                                            try clear hcz55_1
                                            try clear hcz55_2
                                            try clear hcz55_3
                                            try clear hcz56_0
                                            try clear hcz56_1
                                            try clear hcz61_0
                                            try clear hcz61_1
                                            try clear hcz61_2
                                            try clear hcz61_3
                                            try clear hcz66_0
                                            try clear hcz66_1
                                            try clear hcz66_2
                                            try clear hcz66_3
                                            try clear hcz73_0
                                            try clear hcz73_1
                                            try clear hcz73_2
                                            try clear hcz73_3
                                            try clear hcz76_0
                                            try clear hcz76_1
                                            try clear hcz76_2
                                            try clear hcz76_3
                                            try clear hcz80_0
                                            try clear hcz80_1
                                            try clear hcz80_2
                                            try clear hcz80_3
                                            try clear hcz83_0
                                            try clear hcz83_1
                                            try clear hcz83_2
                                            try clear hcz83_3
                                            try clear hcz87_0
                                            try clear hcz87_1
                                            try clear hcz87_2
                                            try clear hcz87_3
                                            try clear hcz90_0
                                            try clear hcz90_1
                                            try clear hcz90_2
                                            try clear hcz90_3
                                            try clear hfz14_0
                                            try clear hfz14_1
                                            try clear hfz20_0
                                            try clear hfz20_1
                                            try clear hfz24_0
                                            try clear hfz24_1
                                            try clear hfz25_0
                                            try clear hfz25_1
                                            try clear hfz30_0
                                            try clear hfz30_1
                                            try clear hfz35_0
                                            try clear hfz35_1
                                            try clear hfz36_0
                                            try clear hfz36_1
                                            try clear hfz41_0
                                            try clear hfz41_1
                                            try clear hfz42_0
                                            try clear hfz42_1
                                            try clear hfz51_0
                                            try clear hfz51_1
                                            try clear hfz55_0
                                            try clear hfz55_1
                                            try clear hfz55_2
                                            try clear hfz55_3
                                            try clear hfz56_0
                                            try clear hfz56_1
                                            try clear hfz61_0
                                            try clear hfz61_1
                                            try clear hfz61_2
                                            try clear hfz61_3
                                            try clear hfz66_0
                                            try clear hfz66_1
                                            try clear hfz66_2
                                            try clear hfz66_3
                                            try clear hfz73_0
                                            try clear hfz73_1
                                            try clear hfz73_2
                                            try clear hfz73_3
                                            try clear hfz76_0
                                            try clear hfz76_1
                                            try clear hfz76_2
                                            try clear hfz76_3
                                            try clear hfz80_0
                                            try clear hfz80_1
                                            try clear hfz80_2
                                            try clear hfz80_3
                                            try clear hfz83_0
                                            try clear hfz83_1
                                            try clear hfz83_2
                                            try clear hfz83_3
                                            try clear hfz87_0
                                            try clear hfz87_1
                                            try clear hfz87_2
                                            try clear hfz87_3
                                            try clear hfz90_0
                                            try clear hfz90_1
                                            try clear hfz90_2
                                            try clear hfz90_3
                                            try clear hx214_0
                                            try clear hx214_1
                                            try clear hx214_2
                                            try clear hx214_3
                                            try clear hx215_0
                                            try clear hx215_1
                                            try clear hx215_2
                                            try clear hx215_3
                                            try clear hx216_0
                                            try clear hx217_0
                                            try clear hx217_1
                                            try clear hx217_2
                                            try clear hx217_3
                                            try clear hx219_0
                                            try clear hx219_1
                                            try clear hx219_2
                                            try clear hx219_3
                                            try clear p2
                                            try clear p21
                                            try clear p214
                                            try clear p215
                                            try clear p216
                                            try clear p217
                                            try clear p219
                                            try clear p6
                                            try clear p64
                                            try clear q2
                                            try clear q21
                                            try clear q214
                                            try clear q215
                                            try clear q216
                                            try clear q217
                                            try clear q219
                                            obtain ⟨kq, x112_66, rfl, HA, HJ66, HO_206000, HO_206001, HO_214000, HO_214001, BK205, BK213, BK218, BK220, HB⟩ := hcut
                                            cases kq with
                                            | zero => exact absurd HA.out (by simp [topiarylaw13_ParserNests.j5])
                                            | succ kj66 =>
                                              have H := HA.out
                                              clear HA
                                              simp only [topiarylaw13_ParserNests.j5] at H
                                              by_cases c91 : x112_66 = true
                                              · subst c91
                                                have H1 : (some false) = some r := by rw [if_pos rfl] at H; exact H
                                                clear H
                                                have H := H1
                                                clear H1
                                                obtain rfl := Option.some.inj H
                                                go_wp2
                                                repeat (go_quiet (fail); try go_wp2)
                                                go_ret
                                                exact ⟨by first | rfl | (simp [errW_none, errW_some] <;> rfl) | (simp only [← hji46]; first | rfl | (simp [errW_none, errW_some] <;> rfl)) | (simp [*, errW_none, errW_some] <;> rfl), by repeat (first | (with_reducible first | exact HB.out | apply below_alloc | apply pw_below_drewN | apply below_drew1 | refine below_set ?_ GE205.out | refine below_set ?_ GE213.out | refine below_set ?_ GE218.out | refine below_set ?_ GE220.out) | exact HB.out)⟩
                                              · replace c91 := Bool.eq_false_iff.mpr c91
                                                subst c91
                                                have H1 : (if ((rd_T33 t201 x9_4).f0) = 3 then (topiarylaw13_ParserNests.l0 kj66 t196 x8_27 (wrap64 (x9_4 + 1)) t198 t201 t206 t209) else (if 0 ≤ ((rd_T33 t201 x9_4).f1) then (if ((rd_T33 t201 x9_4).f1) < (t198.length : Int) then (if 0 ≤ ((rd_T33 t209 (ji46)).f1) then (if ((rd_T33 t209 (ji46)).f1) < (t206.length : Int) then (if (rdOf ByteArray.empty t198 ((rd_T33 t201 x9_4).f1)).toList = (rdOf ByteArray.empty t206 ((rd_T33 t209 (ji46)).f1)).toList then (topiarylaw13_ParserNests.l0 kj66 t196 x8_27 (wrap64 (x9_4 + 1)) t198 t201 t206 t209) else (some false)) else (none)) else (none)) else (none)) else (none))) = some r := by rw [if_neg (show ¬ (false = true) by decide)] at H; exact H
                                                clear H
                                                have H := H1
                                                clear H1
                                                by_cases c92 : ((rd_T33 t201 x9_4).f0) = 3
                                                · rw [if_pos c92] at H
                                                  have c92b0 : (((rd_T33 t201 x9_4).f0) == 3) = true := beq_iff_eq.mpr c92
                                                  have c92b1 : (((rd_T33 t201 x9_4).f0) != 3) = false := bne_eq_false_iff_eq.mpr c92
                                                  clear c92
                                                  have H' := Aside0.mk H
                                                  clear H
                                                  have hnb93 := NB218_205.out
                                                  have hnc93 := NB205_218.out
                                                  have hnb94 := NB218_213.out
                                                  have hnc94 := NB213_218.out
                                                  have hnb95 := NB218_220.out
                                                  have hnc95 := NB220_218.out
                                                  have hcz96_0 : wc.cell? ⟨gb218, 0, none⟩ = some (.int .i64 ((rd_T33 t201 x9_4).f0)) := (blk_cell BK218.out 0).trans rfl
                                                  have hcz96_1 : wc.cell? ⟨gb218, 1, none⟩ = some (.int .i64 ((rd_T33 t201 x9_4).f1)) := (blk_cell BK218.out 1).trans rfl
                                                  have hcz96_2 : wc.cell? ⟨gb218, 2, none⟩ = some (.int .i64 ((rd_T33 t201 x9_4).f2)) := (blk_cell BK218.out 2).trans rfl
                                                  have hcz96_3 : wc.cell? ⟨gb218, 3, none⟩ = some (.string ((rd_T33 t201 x9_4).f3)) := (blk_cell BK218.out 3).trans rfl
                                                  have hfz96_0 := blk_frozen BK218.out 0
                                                  have hfz96_1 := blk_frozen BK218.out 1
                                                  have hfz96_2 := blk_frozen BK218.out 2
                                                  have hfz96_3 := blk_frozen BK218.out 3
                                                  go_wp2
                                                  repeat (go_quiet (fail); try go_wp2)
                                                  go_roundg kj66
                                                  case measure => have := HJ8.out; have := HJ27.out; have := HJ31.out; have := HK4.out; have := HJ48.out; have := HJ66.out; omega
                                                  case rel => exact ⟨(wrap64 (x9_4 + 1)), (by first | rfl | (simp; done) | (simp [*]; done)), H', ⟨by have := HJ8.out; have := HJ27.out; have := HJ31.out; have := HK4.out; have := HJ48.out; have := HJ66.out; omega⟩, ⟨by (with_reducible repeat (first | apply Kd.R_alloc | apply Kd.R_drewN | apply Kd.R_drew)); exact HO_206000.out⟩, ⟨by (with_reducible repeat (first | apply Kd.R_alloc | apply Kd.R_drewN | apply Kd.R_drew)); exact Kd.R_mono HO_206001.out (fun _ hk => hk.1)⟩, ⟨by (with_reducible repeat (first | apply Kd.R_alloc | apply Kd.R_drewN | apply Kd.R_drew)); exact HO_214000.out⟩, ⟨by (with_reducible repeat (first | apply Kd.R_alloc | apply Kd.R_drewN | apply Kd.R_drew)); exact Kd.R_mono HO_214001.out (fun _ hk => hk.1)⟩, ⟨by (with_reducible repeat (first | refine blk_drewN ?_ _ | refine blk_drew ?_ | refine blk_alloc ?_ _)); exact BK205.out⟩, ⟨by (with_reducible repeat (first | refine blk_drewN ?_ _ | refine blk_drew ?_ | refine blk_alloc ?_ _)); exact BK213.out⟩, ⟨by repeat (first | (with_reducible first | exact HB.out | apply below_alloc | apply pw_below_drewN | apply below_drew1 | refine below_set ?_ GE205.out | refine below_set ?_ GE213.out | refine below_set ?_ GE218.out | refine below_set ?_ GE220.out) | exact HB.out)⟩⟩
                                                · rw [if_neg c92] at H
                                                  have c92b0 : (((rd_T33 t201 x9_4).f0) == 3) = false := beq_eq_false_iff_ne.mpr c92
                                                  have c92b1 : (((rd_T33 t201 x9_4).f0) != 3) = true := bne_iff_ne.mpr c92
                                                  by_cases c97 : 0 ≤ ((rd_T33 t201 x9_4).f1)
                                                  · rw [if_pos c97] at H
                                                    have c97b0 : decide (0 ≤ ((rd_T33 t201 x9_4).f1)) = true := decide_eq_true c97
                                                    clear c97
                                                    by_cases c98 : ((rd_T33 t201 x9_4).f1) < (t198.length : Int)
                                                    · rw [if_pos c98] at H
                                                      have c98b0 : decide (((rd_T33 t201 x9_4).f1) < (t198.length : Int)) = true := decide_eq_true c98
                                                      clear c98
                                                      by_cases c99 : 0 ≤ ((rd_T33 t209 (ji46)).f1)
                                                      · rw [if_pos c99] at H
                                                        have c99b0 : decide (0 ≤ ((rd_T33 t209 (ji46)).f1)) = true := decide_eq_true c99
                                                        clear c99
                                                        by_cases c100 : ((rd_T33 t209 (ji46)).f1) < (t206.length : Int)
                                                        · rw [if_pos c100] at H
                                                          have c100b0 : decide (((rd_T33 t209 (ji46)).f1) < (t206.length : Int)) = true := decide_eq_true c100
                                                          clear c100
                                                          by_cases c101 : (rdOf ByteArray.empty t198 ((rd_T33 t201 x9_4).f1)).toList = (rdOf ByteArray.empty t206 ((rd_T33 t209 (ji46)).f1)).toList
                                                          · rw [if_pos c101] at H
                                                            have c101b0 : ((rdOf ByteArray.empty t198 ((rd_T33 t201 x9_4).f1)).toList == (rdOf ByteArray.empty t206 ((rd_T33 t209 (ji46)).f1)).toList) = true := beq_iff_eq.mpr c101
                                                            have c101b1 : ((rdOf ByteArray.empty t198 ((rd_T33 t201 x9_4).f1)).toList != (rdOf ByteArray.empty t206 ((rd_T33 t209 (ji46)).f1)).toList) = false := bne_eq_false_iff_eq.mpr c101
                                                            clear c101
                                                            have H' := Aside0.mk H
                                                            clear H
                                                            have hnb102 := NB218_205.out
                                                            have hnc102 := NB205_218.out
                                                            have hnb103 := NB218_213.out
                                                            have hnc103 := NB213_218.out
                                                            have hnb104 := NB218_220.out
                                                            have hnc104 := NB220_218.out
                                                            have hcz105_0 : wc.cell? ⟨gb218, 0, none⟩ = some (.int .i64 ((rd_T33 t201 x9_4).f0)) := (blk_cell BK218.out 0).trans rfl
                                                            have hcz105_1 : wc.cell? ⟨gb218, 1, none⟩ = some (.int .i64 ((rd_T33 t201 x9_4).f1)) := (blk_cell BK218.out 1).trans rfl
                                                            have hcz105_2 : wc.cell? ⟨gb218, 2, none⟩ = some (.int .i64 ((rd_T33 t201 x9_4).f2)) := (blk_cell BK218.out 2).trans rfl
                                                            have hcz105_3 : wc.cell? ⟨gb218, 3, none⟩ = some (.string ((rd_T33 t201 x9_4).f3)) := (blk_cell BK218.out 3).trans rfl
                                                            have hfz105_0 := blk_frozen BK218.out 0
                                                            have hfz105_1 := blk_frozen BK218.out 1
                                                            have hfz105_2 := blk_frozen BK218.out 2
                                                            have hfz105_3 := blk_frozen BK218.out 3
                                                            have hnb106 := NB205_213.out
                                                            have hnc106 := NB213_205.out
                                                            have hnb107 := NB205_220.out
                                                            have hnc107 := NB220_205.out
                                                            have hcz108_0 : wc.cell? ⟨gb205, 0, none⟩ = some (.slice Ao13 t198.length co13) := (blk_cell BK205.out 0).trans rfl
                                                            have hcz108_1 : wc.cell? ⟨gb205, 1, none⟩ = some (.slice (some ad217) t201.length co15) := (blk_cell BK205.out 1).trans rfl
                                                            have hfz108_0 := blk_frozen BK205.out 0
                                                            have hfz108_1 := blk_frozen BK205.out 1
                                                            have p221 : 0 ≤ (((rd_T33 t201 x9_4).f1) : Int) := of_decide_eq_true (by first | (with_reducible assumption) | assumption)
                                                            have q221 : ((rd_T33 t201 x9_4).f1) < (t198.length : Int) := of_decide_eq_true (by first | (with_reducible assumption) | assumption)
                                                            obtain ⟨ad221, e221, hx221_0⟩ := Kd.at_string (Kd.R_reads' HO_206000.out).2.2 ((rd_T33 t201 x9_4).f1) p221 q221
                                                            cases e221
                                                            replace p221 := eq_true p221
                                                            replace q221 := eq_true q221
                                                            have hnb109 := NB213_220.out
                                                            have hnc109 := NB220_213.out
                                                            have hcz110_0 : wc.cell? ⟨gb213, 0, none⟩ = some (.slice Ao18 t206.length co18) := (blk_cell BK213.out 0).trans rfl
                                                            have hcz110_1 : wc.cell? ⟨gb213, 1, none⟩ = some (.slice (some ad214) t209.length co21) := (blk_cell BK213.out 1).trans rfl
                                                            have hfz110_0 := blk_frozen BK213.out 0
                                                            have hfz110_1 := blk_frozen BK213.out 1
                                                            have hcz111_0 : wc.cell? ⟨gb220, 0, none⟩ = some (.int .i64 ((rd_T33 t209 (ji46)).f0)) := (blk_cell BK220.out 0).trans rfl
                                                            have hcz111_1 : wc.cell? ⟨gb220, 1, none⟩ = some (.int .i64 ((rd_T33 t209 (ji46)).f1)) := (blk_cell BK220.out 1).trans rfl
                                                            have hcz111_2 : wc.cell? ⟨gb220, 2, none⟩ = some (.int .i64 ((rd_T33 t209 (ji46)).f2)) := (blk_cell BK220.out 2).trans rfl
                                                            have hcz111_3 : wc.cell? ⟨gb220, 3, none⟩ = some (.string ((rd_T33 t209 (ji46)).f3)) := (blk_cell BK220.out 3).trans rfl
                                                            have hfz111_0 := blk_frozen BK220.out 0
                                                            have hfz111_1 := blk_frozen BK220.out 1
                                                            have hfz111_2 := blk_frozen BK220.out 2
                                                            have hfz111_3 := blk_frozen BK220.out 3
                                                            have p222 : 0 ≤ (((rd_T33 t209 (ji46)).f1) : Int) := of_decide_eq_true (by first | (with_reducible assumption) | assumption)
                                                            have q222 : ((rd_T33 t209 (ji46)).f1) < (t206.length : Int) := of_decide_eq_true (by first | (with_reducible assumption) | assumption)
                                                            obtain ⟨ad222, e222, hx222_0⟩ := Kd.at_string (Kd.R_reads' HO_214000.out).2.2 ((rd_T33 t209 (ji46)).f1) p222 q222
                                                            cases e222
                                                            replace p222 := eq_true p222
                                                            replace q222 := eq_true q222
                                                            go_wp2
                                                            repeat (go_quiet (fail); try go_wp2)
                                                            go_roundg kj66
                                                            case measure => have := HJ8.out; have := HJ27.out; have := HJ31.out; have := HK4.out; have := HJ48.out; have := HJ66.out; omega
                                                            case rel => exact ⟨(wrap64 (x9_4 + 1)), (by first | rfl | (simp; done) | (simp [*]; done)), H', ⟨by have := HJ8.out; have := HJ27.out; have := HJ31.out; have := HK4.out; have := HJ48.out; have := HJ66.out; omega⟩, ⟨by (with_reducible repeat (first | apply Kd.R_alloc | apply Kd.R_drewN | apply Kd.R_drew)); exact HO_206000.out⟩, ⟨by (with_reducible repeat (first | apply Kd.R_alloc | apply Kd.R_drewN | apply Kd.R_drew)); exact Kd.R_mono HO_206001.out (fun _ hk => hk.1)⟩, ⟨by (with_reducible repeat (first | apply Kd.R_alloc | apply Kd.R_drewN | apply Kd.R_drew)); exact HO_214000.out⟩, ⟨by (with_reducible repeat (first | apply Kd.R_alloc | apply Kd.R_drewN | apply Kd.R_drew)); exact Kd.R_mono HO_214001.out (fun _ hk => hk.1)⟩, ⟨by (with_reducible repeat (first | refine blk_drewN ?_ _ | refine blk_drew ?_ | refine blk_alloc ?_ _)); exact BK205.out⟩, ⟨by (with_reducible repeat (first | refine blk_drewN ?_ _ | refine blk_drew ?_ | refine blk_alloc ?_ _)); exact BK213.out⟩, ⟨by repeat (first | (with_reducible first | exact HB.out | apply below_alloc | apply pw_below_drewN | apply below_drew1 | refine below_set ?_ GE205.out | refine below_set ?_ GE213.out | refine below_set ?_ GE218.out | refine below_set ?_ GE220.out) | exact HB.out)⟩⟩
                                                          · rw [if_neg c101] at H
                                                            have c101b0 : ((rdOf ByteArray.empty t198 ((rd_T33 t201 x9_4).f1)).toList == (rdOf ByteArray.empty t206 ((rd_T33 t209 (ji46)).f1)).toList) = false := beq_eq_false_iff_ne.mpr c101
                                                            have c101b1 : ((rdOf ByteArray.empty t198 ((rd_T33 t201 x9_4).f1)).toList != (rdOf ByteArray.empty t206 ((rd_T33 t209 (ji46)).f1)).toList) = true := bne_iff_ne.mpr c101
                                                            obtain rfl := Option.some.inj H
                                                            have hnb112 := NB218_205.out
                                                            have hnc112 := NB205_218.out
                                                            have hnb113 := NB218_213.out
                                                            have hnc113 := NB213_218.out
                                                            have hnb114 := NB218_220.out
                                                            have hnc114 := NB220_218.out
                                                            have hcz115_0 : wc.cell? ⟨gb218, 0, none⟩ = some (.int .i64 ((rd_T33 t201 x9_4).f0)) := (blk_cell BK218.out 0).trans rfl
                                                            have hcz115_1 : wc.cell? ⟨gb218, 1, none⟩ = some (.int .i64 ((rd_T33 t201 x9_4).f1)) := (blk_cell BK218.out 1).trans rfl
                                                            have hcz115_2 : wc.cell? ⟨gb218, 2, none⟩ = some (.int .i64 ((rd_T33 t201 x9_4).f2)) := (blk_cell BK218.out 2).trans rfl
                                                            have hcz115_3 : wc.cell? ⟨gb218, 3, none⟩ = some (.string ((rd_T33 t201 x9_4).f3)) := (blk_cell BK218.out 3).trans rfl
                                                            have hfz115_0 := blk_frozen BK218.out 0
                                                            have hfz115_1 := blk_frozen BK218.out 1
                                                            have hfz115_2 := blk_frozen BK218.out 2
                                                            have hfz115_3 := blk_frozen BK218.out 3
                                                            have hnb116 := NB205_213.out
                                                            have hnc116 := NB213_205.out
                                                            have hnb117 := NB205_220.out
                                                            have hnc117 := NB220_205.out
                                                            have hcz118_0 : wc.cell? ⟨gb205, 0, none⟩ = some (.slice Ao13 t198.length co13) := (blk_cell BK205.out 0).trans rfl
                                                            have hcz118_1 : wc.cell? ⟨gb205, 1, none⟩ = some (.slice (some ad217) t201.length co15) := (blk_cell BK205.out 1).trans rfl
                                                            have hfz118_0 := blk_frozen BK205.out 0
                                                            have hfz118_1 := blk_frozen BK205.out 1
                                                            have p221 : 0 ≤ (((rd_T33 t201 x9_4).f1) : Int) := of_decide_eq_true (by first | (with_reducible assumption) | assumption)
                                                            have q221 : ((rd_T33 t201 x9_4).f1) < (t198.length : Int) := of_decide_eq_true (by first | (with_reducible assumption) | assumption)
                                                            obtain ⟨ad221, e221, hx221_0⟩ := Kd.at_string (Kd.R_reads' HO_206000.out).2.2 ((rd_T33 t201 x9_4).f1) p221 q221
                                                            cases e221
                                                            replace p221 := eq_true p221
                                                            replace q221 := eq_true q221
                                                            have hnb119 := NB213_220.out
                                                            have hnc119 := NB220_213.out
                                                            have hcz120_0 : wc.cell? ⟨gb213, 0, none⟩ = some (.slice Ao18 t206.length co18) := (blk_cell BK213.out 0).trans rfl
                                                            have hcz120_1 : wc.cell? ⟨gb213, 1, none⟩ = some (.slice (some ad214) t209.length co21) := (blk_cell BK213.out 1).trans rfl
                                                            have hfz120_0 := blk_frozen BK213.out 0
                                                            have hfz120_1 := blk_frozen BK213.out 1
                                                            have hcz121_0 : wc.cell? ⟨gb220, 0, none⟩ = some (.int .i64 ((rd_T33 t209 (ji46)).f0)) := (blk_cell BK220.out 0).trans rfl
                                                            have hcz121_1 : wc.cell? ⟨gb220, 1, none⟩ = some (.int .i64 ((rd_T33 t209 (ji46)).f1)) := (blk_cell BK220.out 1).trans rfl
                                                            have hcz121_2 : wc.cell? ⟨gb220, 2, none⟩ = some (.int .i64 ((rd_T33 t209 (ji46)).f2)) := (blk_cell BK220.out 2).trans rfl
                                                            have hcz121_3 : wc.cell? ⟨gb220, 3, none⟩ = some (.string ((rd_T33 t209 (ji46)).f3)) := (blk_cell BK220.out 3).trans rfl
                                                            have hfz121_0 := blk_frozen BK220.out 0
                                                            have hfz121_1 := blk_frozen BK220.out 1
                                                            have hfz121_2 := blk_frozen BK220.out 2
                                                            have hfz121_3 := blk_frozen BK220.out 3
                                                            have p222 : 0 ≤ (((rd_T33 t209 (ji46)).f1) : Int) := of_decide_eq_true (by first | (with_reducible assumption) | assumption)
                                                            have q222 : ((rd_T33 t209 (ji46)).f1) < (t206.length : Int) := of_decide_eq_true (by first | (with_reducible assumption) | assumption)
                                                            obtain ⟨ad222, e222, hx222_0⟩ := Kd.at_string (Kd.R_reads' HO_214000.out).2.2 ((rd_T33 t209 (ji46)).f1) p222 q222
                                                            cases e222
                                                            replace p222 := eq_true p222
                                                            replace q222 := eq_true q222
                                                            go_wp2
                                                            repeat (go_quiet (fail); try go_wp2)
                                                            go_ret
                                                            exact ⟨by first | rfl | (simp [errW_none, errW_some] <;> rfl) | (simp only [← hji46]; first | rfl | (simp [errW_none, errW_some] <;> rfl)) | (simp [*, errW_none, errW_some] <;> rfl), by repeat (first | (with_reducible first | exact HB.out | apply below_alloc | apply pw_below_drewN | apply below_drew1 | refine below_set ?_ GE205.out | refine below_set ?_ GE213.out | refine below_set ?_ GE218.out | refine below_set ?_ GE220.out) | exact HB.out)⟩
                                                        · rw [if_neg c100] at H
                                                          exact absurd H (by simp)
                                                      · rw [if_neg c99] at H
                                                        exact absurd H (by simp)
                                                    · rw [if_neg c98] at H
                                                      exact absurd H (by simp)
                                                  · rw [if_neg c97] at H
                                                    exact absurd H (by simp)
                                    · rw [if_neg c48] at H
                                      exact absurd H (by simp)
                                  · rw [if_neg c47] at H
                                    exact absurd H (by simp)
                                · rw [if_neg c45] at H
                                  exact absurd H (by simp)
                              · rw [if_neg c44] at H
                                have c44b0 : decide (x9_4 < (t201.length : Int)) = false := decide_eq_false c44
                                clear c44
                                obtain rfl := Option.some.inj H
                                have hnb122 := NB205_213.out
                                have hnc122 := NB213_205.out
                                have hcz123_0 : wr.cell? ⟨gb205, 0, none⟩ = some (.slice Ao13 t198.length co13) := (blk_cell BK205.out 0).trans rfl
                                have hcz123_1 : wr.cell? ⟨gb205, 1, none⟩ = some (.slice Ao15 t201.length co15) := (blk_cell BK205.out 1).trans rfl
                                have hfz123_0 := blk_frozen BK205.out 0
                                have hfz123_1 := blk_frozen BK205.out 1
                                go_wp2
                                repeat (go_quiet (fail); try go_wp2)
                                go_ret
                                exact ⟨by first | rfl | (simp [errW_none, errW_some] <;> rfl) | (simp [*, errW_none, errW_some] <;> rfl), by repeat (first | (with_reducible first | exact HB.out | apply below_alloc | apply pw_below_drewN | apply below_drew1 | refine below_set ?_ GE205.out | refine below_set ?_ GE213.out) | exact HB.out)⟩
              · rw [if_neg c27] at H
                exact absurd H (by simp)
      · rw [if_neg c7] at H
        exact absurd H (by simp)
    · rw [if_neg c6] at H
      exact absurd H (by simp)
  · rw [if_neg c5] at H
    have c5b0 : (t204 == 0) = false := beq_eq_false_iff_ne.mpr c5
    have c5b1 : (t204 != 0) = true := bne_iff_ne.mpr c5
    obtain rfl := Option.some.inj H
    go_enter Try.func5, Try.ntmps5
    go_wp2_with (first | (go_at_call 7; (with_reducible refine (topiarylaw13_awake.calls  t196 _ (by first | exact hG | exact G.below hG (by repeat (first | (with_reducible first | exact HB.out | apply below_alloc | apply pw_below_drewN | apply below_drew1) | exact HB.out))) A2.out).mono ?_); rintro e w124 ⟨rfl, hb⟩; have n0_ := Aside0.mk (below_step (by repeat (first | (with_reducible first | exact HB.out | apply below_alloc | apply pw_below_drewN | apply below_drew1) | exact HB.out)) hb); clear HB; have HB := n0_; clear n0_; (try clear hb); (try clear hb2); (try clear hk); (try clear hi)) | (go_at_call 9; (with_reducible refine (topiarylaw13_short.calls a0 150 t197 _ A3.out).mono ?_); rintro e w' ⟨rfl, ⟨nd, rfl⟩⟩; (try first | exact ⟨rfl, _, World.drewN_drewN _ _ _⟩ | exact ⟨rfl, _, Eq.trans (World.drewN_drewN _ _ _) (congrArg (World.drewN _) (Nat.add_assoc _ _ _))⟩)) | (go_at_call 8; (with_reducible refine (parser_Parse.calls t197 t198 t201 t204 _ (by first | exact hG | exact G.below hG (by repeat (first | (with_reducible first | exact HB.out | apply below_alloc | apply pw_below_drewN | apply below_drew1) | exact HB.out))) A4.out).mono ?_); rintro e w125 ⟨v199, v202, rfl, ho0, ho1, hb⟩; have n0_ := Aside0.mk (Kd.R_lower ho0 (below_size (by repeat (first | (with_reducible first | exact HB.out | apply below_alloc | apply pw_below_drewN | apply below_drew1) | exact HB.out)))); have n1_ := Aside0.mk (Kd.R_lower ho1 (below_size (by repeat (first | (with_reducible first | exact HB.out | apply below_alloc | apply pw_below_drewN | apply below_drew1) | exact HB.out)))); have n2_ := Aside0.mk (below_step (by repeat (first | (with_reducible first | exact HB.out | apply below_alloc | apply pw_below_drewN | apply below_drew1) | exact HB.out)) hb); clear HB; have HO200 := n0_; have HO203 := n1_; have HB := n2_; clear n0_ n1_ n2_; (try clear hb); (try clear hb2); (try clear hk); (try clear hi); (try clear ho0); (try clear ho1)) | ((with_reducible refine gate_dst (N := 4) rfl ?_); (try (refine gate_guard (by rfl) ?_; dsimp only)); refine box_event ?hg (N := 4) ?hd (cs := #[.slice none 0 0, .slice none 0 0]) (t := 26) ?hr ?_; (case hd => rfl); (case hg => rfl); (case hr => first | (go_simp; done) | (go_simp; rfl)); intro gb205 hg w126 hbox hb; have n0_ := Aside0.mk (Kd.R_below (by (with_reducible repeat (first | apply Kd.R_alloc | apply Kd.R_drewN | apply Kd.R_drew)); exact HO200.out) hb); have n1_ := Aside0.mk (Kd.R_below (by (with_reducible repeat (first | apply Kd.R_alloc | apply Kd.R_drewN | apply Kd.R_drew)); exact HO203.out) hb); have n2_ := Aside0.mk (below_step (by repeat (first | (with_reducible first | exact HB.out | apply below_alloc | apply pw_below_drewN | apply below_drew1) | exact HB.out)) hb); have n3_ := Aside0.mk (hbox); have n4_ := Aside0.mk ((by rw [hg]; exact (below_size (by repeat (first | (with_reducible first | exact HB.out | apply below_alloc | apply pw_below_drewN | apply below_drew1) | exact HB.out))) : w.heap.size ≤ gb205)); have n5_ := Aside0.mk ((by rw [hg]; exact (below_size (by repeat (first | (with_reducible first | exact HB.out | apply below_alloc | apply pw_below_drewN | apply below_drew1) | exact HB.out))) : w.heap.size ≤ gb205)); clear HO200; clear HO203; clear HB; have HO200 := n0_; have HO203 := n1_; have HB := n2_; have BK205 := n3_; have GW205 := n4_; have GE205 := n5_; clear n0_ n1_ n2_ n3_ n4_ n5_; clear hb hbox hg; obtain ⟨Ao127, co127, eo127⟩ := Kd.R_slice HO200.out; subst eo127; have hcz128_0 : w126.cell? ⟨gb205, 0, none⟩ = some (.slice none 0 0) := (blk_cell BK205.out 0).trans rfl; have hcz128_1 : w126.cell? ⟨gb205, 1, none⟩ = some (.slice none 0 0) := (blk_cell BK205.out 1).trans rfl; have hfz128_0 := blk_frozen BK205.out 0; have hfz128_1 := blk_frozen BK205.out 1; obtain ⟨Ao129, co129, eo129⟩ := Kd.R_slice HO203.out; subst eo129))
    repeat (go_quiet (first | (go_at_call 7; (with_reducible refine (topiarylaw13_awake.calls  t196 _ (by first | exact hG | exact G.below hG (by repeat (first | (with_reducible first | exact HB.out | apply below_alloc | apply pw_below_drewN | apply below_drew1) | exact HB.out))) A2.out).mono ?_); rintro e w124 ⟨rfl, hb⟩; have n0_ := Aside0.mk (below_step (by repeat (first | (with_reducible first | exact HB.out | apply below_alloc | apply pw_below_drewN | apply below_drew1) | exact HB.out)) hb); clear HB; have HB := n0_; clear n0_; (try clear hb); (try clear hb2); (try clear hk); (try clear hi)) | (go_at_call 9; (with_reducible refine (topiarylaw13_short.calls a0 150 t197 _ A3.out).mono ?_); rintro e w' ⟨rfl, ⟨nd, rfl⟩⟩; (try first | exact ⟨rfl, _, World.drewN_drewN _ _ _⟩ | exact ⟨rfl, _, Eq.trans (World.drewN_drewN _ _ _) (congrArg (World.drewN _) (Nat.add_assoc _ _ _))⟩)) | (go_at_call 8; (with_reducible refine (parser_Parse.calls t197 t198 t201 t204 _ (by first | exact hG | exact G.below hG (by repeat (first | (with_reducible first | exact HB.out | apply below_alloc | apply pw_below_drewN | apply below_drew1) | exact HB.out))) A4.out).mono ?_); rintro e w125 ⟨v199, v202, rfl, ho0, ho1, hb⟩; have n0_ := Aside0.mk (Kd.R_lower ho0 (below_size (by repeat (first | (with_reducible first | exact HB.out | apply below_alloc | apply pw_below_drewN | apply below_drew1) | exact HB.out)))); have n1_ := Aside0.mk (Kd.R_lower ho1 (below_size (by repeat (first | (with_reducible first | exact HB.out | apply below_alloc | apply pw_below_drewN | apply below_drew1) | exact HB.out)))); have n2_ := Aside0.mk (below_step (by repeat (first | (with_reducible first | exact HB.out | apply below_alloc | apply pw_below_drewN | apply below_drew1) | exact HB.out)) hb); clear HB; have HO200 := n0_; have HO203 := n1_; have HB := n2_; clear n0_ n1_ n2_; (try clear hb); (try clear hb2); (try clear hk); (try clear hi); (try clear ho0); (try clear ho1)) | ((with_reducible refine gate_dst (N := 4) rfl ?_); (try (refine gate_guard (by rfl) ?_; dsimp only)); refine box_event ?hg (N := 4) ?hd (cs := #[.slice none 0 0, .slice none 0 0]) (t := 26) ?hr ?_; (case hd => rfl); (case hg => rfl); (case hr => first | (go_simp; done) | (go_simp; rfl)); intro gb205 hg w126 hbox hb; have n0_ := Aside0.mk (Kd.R_below (by (with_reducible repeat (first | apply Kd.R_alloc | apply Kd.R_drewN | apply Kd.R_drew)); exact HO200.out) hb); have n1_ := Aside0.mk (Kd.R_below (by (with_reducible repeat (first | apply Kd.R_alloc | apply Kd.R_drewN | apply Kd.R_drew)); exact HO203.out) hb); have n2_ := Aside0.mk (below_step (by repeat (first | (with_reducible first | exact HB.out | apply below_alloc | apply pw_below_drewN | apply below_drew1) | exact HB.out)) hb); have n3_ := Aside0.mk (hbox); have n4_ := Aside0.mk ((by rw [hg]; exact (below_size (by repeat (first | (with_reducible first | exact HB.out | apply below_alloc | apply pw_below_drewN | apply below_drew1) | exact HB.out))) : w.heap.size ≤ gb205)); have n5_ := Aside0.mk ((by rw [hg]; exact (below_size (by repeat (first | (with_reducible first | exact HB.out | apply below_alloc | apply pw_below_drewN | apply below_drew1) | exact HB.out))) : w.heap.size ≤ gb205)); clear HO200; clear HO203; clear HB; have HO200 := n0_; have HO203 := n1_; have HB := n2_; have BK205 := n3_; have GW205 := n4_; have GE205 := n5_; clear n0_ n1_ n2_ n3_ n4_ n5_; clear hb hbox hg; obtain ⟨Ao127, co127, eo127⟩ := Kd.R_slice HO200.out; subst eo127; have hcz128_0 : w126.cell? ⟨gb205, 0, none⟩ = some (.slice none 0 0) := (blk_cell BK205.out 0).trans rfl; have hcz128_1 : w126.cell? ⟨gb205, 1, none⟩ = some (.slice none 0 0) := (blk_cell BK205.out 1).trans rfl; have hfz128_0 := blk_frozen BK205.out 0; have hfz128_1 := blk_frozen BK205.out 1; obtain ⟨Ao129, co129, eo129⟩ := Kd.R_slice HO203.out; subst eo129)); try go_wp2_with (first | (go_at_call 7; (with_reducible refine (topiarylaw13_awake.calls  t196 _ (by first | exact hG | exact G.below hG (by repeat (first | (with_reducible first | exact HB.out | apply below_alloc | apply pw_below_drewN | apply below_drew1) | exact HB.out))) A2.out).mono ?_); rintro e w124 ⟨rfl, hb⟩; have n0_ := Aside0.mk (below_step (by repeat (first | (with_reducible first | exact HB.out | apply below_alloc | apply pw_below_drewN | apply below_drew1) | exact HB.out)) hb); clear HB; have HB := n0_; clear n0_; (try clear hb); (try clear hb2); (try clear hk); (try clear hi)) | (go_at_call 9; (with_reducible refine (topiarylaw13_short.calls a0 150 t197 _ A3.out).mono ?_); rintro e w' ⟨rfl, ⟨nd, rfl⟩⟩; (try first | exact ⟨rfl, _, World.drewN_drewN _ _ _⟩ | exact ⟨rfl, _, Eq.trans (World.drewN_drewN _ _ _) (congrArg (World.drewN _) (Nat.add_assoc _ _ _))⟩)) | (go_at_call 8; (with_reducible refine (parser_Parse.calls t197 t198 t201 t204 _ (by first | exact hG | exact G.below hG (by repeat (first | (with_reducible first | exact HB.out | apply below_alloc | apply pw_below_drewN | apply below_drew1) | exact HB.out))) A4.out).mono ?_); rintro e w125 ⟨v199, v202, rfl, ho0, ho1, hb⟩; have n0_ := Aside0.mk (Kd.R_lower ho0 (below_size (by repeat (first | (with_reducible first | exact HB.out | apply below_alloc | apply pw_below_drewN | apply below_drew1) | exact HB.out)))); have n1_ := Aside0.mk (Kd.R_lower ho1 (below_size (by repeat (first | (with_reducible first | exact HB.out | apply below_alloc | apply pw_below_drewN | apply below_drew1) | exact HB.out)))); have n2_ := Aside0.mk (below_step (by repeat (first | (with_reducible first | exact HB.out | apply below_alloc | apply pw_below_drewN | apply below_drew1) | exact HB.out)) hb); clear HB; have HO200 := n0_; have HO203 := n1_; have HB := n2_; clear n0_ n1_ n2_; (try clear hb); (try clear hb2); (try clear hk); (try clear hi); (try clear ho0); (try clear ho1)) | ((with_reducible refine gate_dst (N := 4) rfl ?_); (try (refine gate_guard (by rfl) ?_; dsimp only)); refine box_event ?hg (N := 4) ?hd (cs := #[.slice none 0 0, .slice none 0 0]) (t := 26) ?hr ?_; (case hd => rfl); (case hg => rfl); (case hr => first | (go_simp; done) | (go_simp; rfl)); intro gb205 hg w126 hbox hb; have n0_ := Aside0.mk (Kd.R_below (by (with_reducible repeat (first | apply Kd.R_alloc | apply Kd.R_drewN | apply Kd.R_drew)); exact HO200.out) hb); have n1_ := Aside0.mk (Kd.R_below (by (with_reducible repeat (first | apply Kd.R_alloc | apply Kd.R_drewN | apply Kd.R_drew)); exact HO203.out) hb); have n2_ := Aside0.mk (below_step (by repeat (first | (with_reducible first | exact HB.out | apply below_alloc | apply pw_below_drewN | apply below_drew1) | exact HB.out)) hb); have n3_ := Aside0.mk (hbox); have n4_ := Aside0.mk ((by rw [hg]; exact (below_size (by repeat (first | (with_reducible first | exact HB.out | apply below_alloc | apply pw_below_drewN | apply below_drew1) | exact HB.out))) : w.heap.size ≤ gb205)); have n5_ := Aside0.mk ((by rw [hg]; exact (below_size (by repeat (first | (with_reducible first | exact HB.out | apply below_alloc | apply pw_below_drewN | apply below_drew1) | exact HB.out))) : w.heap.size ≤ gb205)); clear HO200; clear HO203; clear HB; have HO200 := n0_; have HO203 := n1_; have HB := n2_; have BK205 := n3_; have GW205 := n4_; have GE205 := n5_; clear n0_ n1_ n2_ n3_ n4_ n5_; clear hb hbox hg; obtain ⟨Ao127, co127, eo127⟩ := Kd.R_slice HO200.out; subst eo127; have hcz128_0 : w126.cell? ⟨gb205, 0, none⟩ = some (.slice none 0 0) := (blk_cell BK205.out 0).trans rfl; have hcz128_1 : w126.cell? ⟨gb205, 1, none⟩ = some (.slice none 0 0) := (blk_cell BK205.out 1).trans rfl; have hfz128_0 := blk_frozen BK205.out 0; have hfz128_1 := blk_frozen BK205.out 1; obtain ⟨Ao129, co129, eo129⟩ := Kd.R_slice HO203.out; subst eo129)))
    go_ret
    exact ⟨by first | rfl | (simp [errW_none, errW_some] <;> rfl) | (simp [*, errW_none, errW_some] <;> rfl), by repeat (first | (with_reducible first | exact HB.out | apply below_alloc | apply pw_below_drewN | apply below_drew1 | refine below_set ?_ GE205.out) | exact HB.out)⟩
def topiarylaw13_ParserNests.Pure : Prop := ∀ (a0 : ByteArray), a0.size ≤ 140737488351232 → ∃ k, topiarylaw13_ParserNests.f k a0 = some true
theorem topiarylaw13_ParserNests.walk (P : topiarylaw13_ParserNests.Pure) (a0 : ByteArray) (w : World) (hG : G w) (w0 : a0.size ≤ 140737488351232) :
    Calls Try.prog 5 #[.string a0] w fun e w' => e = .returned (.bool true) ∧ Below w.heap.size w w' := by
  obtain ⟨k, h⟩ := P a0 w0
  refine (topiarylaw13_ParserNests.calls k a0 true w hG h).mono ?_
  rintro e w' ⟨rfl, hd⟩
  exact ⟨rfl, hd⟩
end Go.Proofs.Ytlhhhlimjajnlaa.Q
end
