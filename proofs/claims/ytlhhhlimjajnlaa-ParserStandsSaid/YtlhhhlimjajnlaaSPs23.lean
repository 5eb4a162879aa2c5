/- Parts of the proof of parserStands_holds, kept and merged by a program of mine (wip/tools/slim.py) out of my texts: Q11 -/
import Derived.Test.YtlhhhlimjajnlaaSPs4
import Derived.Test.YtlhhhlimjajnlaaSPs5
import Derived.Test.YtlhhhlimjajnlaaSPs22
section
namespace Go.Proofs.Ytlhhhlimjajnlaa.X
end Go.Proofs.Ytlhhhlimjajnlaa.X
namespace Go.Proofs.Ytlhhhlimjajnlaa.Q
open Go.RowKit Go.Proofs.YtlhhhlimjajnlaaW.PrintWords Go.Proofs.YtlhhhlimjajnlaaW.PrintLast Go.Proofs.YtlhhhlimjajnlaaW.PrintMore
attribute [local go_sem] max2_int min2_int max_two min_two max_three min_three max_four min_four   
open Go.Proofs.Ytlhhhlimjajnlaa.X
attribute [local go_sem] str_gtr str_geq str_leq   
set_option linter.unusedVariables false
set_option linter.unusedSimpArgs false
mutual
def topiarylaw13_ParserStands.l0 : Nat → Bool → List Bool → Int → List ByteArray → List (S33) → Option (Bool)
  | 0, _, _, _, _, _ => none
  | k + 1, x3, x6, x7, x177000, x177001 => if x7 < (x177001.length : Int) then (if 0 ≤ x7 then (if ((decide (((rd_T33 x177001 x7).f2) < 0)) != (x7 == 0)) = true then (topiarylaw13_ParserStands.j1 k x3 x6 x7 true x177000 x177001 ((rd_T33 x177001 x7).f0) ((rd_T33 x177001 x7).f1) ((rd_T33 x177001 x7).f2) ((rd_T33 x177001 x7).f3)) else (if ((rd_T33 x177001 x7).f2) ≥ x7 then (topiarylaw13_ParserStands.j1 k x3 x6 x7 true x177000 x177001 ((rd_T33 x177001 x7).f0) ((rd_T33 x177001 x7).f1) ((rd_T33 x177001 x7).f2) ((rd_T33 x177001 x7).f3)) else (if ((rd_T33 x177001 x7).f0) < 1 then (topiarylaw13_ParserStands.j1 k x3 x6 x7 true x177000 x177001 ((rd_T33 x177001 x7).f0) ((rd_T33 x177001 x7).f1) ((rd_T33 x177001 x7).f2) ((rd_T33 x177001 x7).f3)) else (topiarylaw13_ParserStands.j1 k x3 x6 x7 (decide (((rd_T33 x177001 x7).f0) > 3)) x177000 x177001 ((rd_T33 x177001 x7).f0) ((rd_T33 x177001 x7).f1) ((rd_T33 x177001 x7).f2) ((rd_T33 x177001 x7).f3))))) else (none)) else (topiarylaw13_ParserStands.l2 k x3 x6 0 x177000 x177001)
def topiarylaw13_ParserStands.j1 : Nat → Bool → List Bool → Int → Bool → List ByteArray → List (S33) → Int → Int → Int → ByteArray → Option (Bool)
  | 0, _, _, _, _, _, _, _, _, _, _ => none
  | k + 1, x3, x6, x7, x70, x177000, x177001, x182000, x182001, x182002, x182003 => if x70 = true then (some false) else (if x7 = 0 then (if x182000 = 1 then (if x7 > 0 then (if 0 ≤ x182002 then (if x182002 < (x177001.length : Int) then (topiarylaw13_ParserStands.j2 k x3 x6 x7 (((rd_T33 x177001 x182002).f0) != 1) x177000 x177001 x182000 x182001 x182002 x182003) else (none)) else (none)) else (topiarylaw13_ParserStands.j2 k x3 x6 x7 false x177000 x177001 x182000 x182001 x182002 x182003)) else (topiarylaw13_ParserStands.j2 k x3 x6 x7 true x177000 x177001 x182000 x182001 x182002 x182003)) else (if x7 > 0 then (if 0 ≤ x182002 then (if x182002 < (x177001.length : Int) then (topiarylaw13_ParserStands.j2 k x3 x6 x7 (((rd_T33 x177001 x182002).f0) != 1) x177000 x177001 x182000 x182001 x182002 x182003) else (none)) else (none)) else (topiarylaw13_ParserStands.j2 k x3 x6 x7 false x177000 x177001 x182000 x182001 x182002 x182003)))
def topiarylaw13_ParserStands.j2 : Nat → Bool → List Bool → Int → Bool → List ByteArray → List (S33) → Int → Int → Int → ByteArray → Option (Bool)
  | 0, _, _, _, _, _, _, _, _, _, _ => none
  | k + 1, x3, x6, x7, x91, x177000, x177001, x182000, x182001, x182002, x182003 => if x91 = true then (some false) else (if x182000 = 3 then (if x182001 = (-1) then (if x182003.toList = ([] : List UInt8) then (some false) else (topiarylaw13_ParserStands.j3 k x3 x6 x7 x177000 x177001 x182000 x182001 x182002 x182003)) else (some false)) else (if x182001 < 0 then (some false) else (if x182001 ≥ (x177000.length : Int) then (some false) else (if x182000 = 1 then (if x182003.toList = ([] : List UInt8) then (if 0 ≤ x182001 then (if x182001 < (x6.length : Int) then (topiarylaw13_ParserStands.j3 k x3 (x6.set (x182001 : Int).toNat true) x7 x177000 x177001 x182000 x182001 x182002 x182003) else (none)) else (none)) else (some false)) else (if 0 ≤ x182001 then (if x182001 < (x6.length : Int) then (topiarylaw13_ParserStands.j3 k x3 (x6.set (x182001 : Int).toNat true) x7 x177000 x177001 x182000 x182001 x182002 x182003) else (none)) else (none))))))
def topiarylaw13_ParserStands.j3 : Nat → Bool → List Bool → Int → List ByteArray → List (S33) → Int → Int → Int → ByteArray → Option (Bool)
  | 0, _, _, _, _, _, _, _, _, _ => none
  | k + 1, x3, x6, x7, x177000, x177001, x182000, x182001, x182002, x182003 => topiarylaw13_ParserStands.l1 k x3 x6 x7 (-1) (wrap64 (x182002 + 1)) x177000 x177001 x182000 x182001 x182002 x182003
def topiarylaw13_ParserStands.l1 : Nat → Bool → List Bool → Int → Int → Int → List ByteArray → List (S33) → Int → Int → Int → ByteArray → Option (Bool)
  | 0, _, _, _, _, _, _, _, _, _, _, _ => none
  | k + 1, x3, x6, x7, x9, x10, x177000, x177001, x182000, x182001, x182002, x182003 => if x10 < x7 then (if 0 ≤ x10 then (if x10 < (x177001.length : Int) then (if ((rd_T33 x177001 x10).f2) = x182002 then (if x7 > 0 then (topiarylaw13_ParserStands.l1 k x3 x6 x7 x10 (wrap64 (x10 + 1)) x177000 x177001 x182000 x182001 x182002 x182003) else (topiarylaw13_ParserStands.l1 k x3 x6 x7 x9 (wrap64 (x10 + 1)) x177000 x177001 x182000 x182001 x182002 x182003)) else (topiarylaw13_ParserStands.l1 k x3 x6 x7 x9 (wrap64 (x10 + 1)) x177000 x177001 x182000 x182001 x182002 x182003)) else (none)) else (none)) else (if x9 ≥ 0 then (if x182000 = 2 then (if 0 ≤ x9 then (if x9 < (x177001.length : Int) then (if ((rd_T33 x177001 x9).f0) = 2 then (if x182000 = 3 then (if ((rd_T33 x177001 x9).f0) = 3 then (some false) else (topiarylaw13_ParserStands.l0 k x3 x6 (wrap64 (x7 + 1)) x177000 x177001)) else (topiarylaw13_ParserStands.l0 k x3 x6 (wrap64 (x7 + 1)) x177000 x177001)) else (some false)) else (none)) else (none)) else (if x182000 = 3 then (if 0 ≤ x9 then (if x9 < (x177001.length : Int) then (if ((rd_T33 x177001 x9).f0) = 3 then (some false) else (topiarylaw13_ParserStands.l0 k x3 x6 (wrap64 (x7 + 1)) x177000 x177001)) else (none)) else (none)) else (topiarylaw13_ParserStands.l0 k x3 x6 (wrap64 (x7 + 1)) x177000 x177001))) else (topiarylaw13_ParserStands.l0 k x3 x6 (wrap64 (x7 + 1)) x177000 x177001))
def topiarylaw13_ParserStands.l2 : Nat → Bool → List Bool → Int → List ByteArray → List (S33) → Option (Bool)
  | 0, _, _, _, _, _ => none
  | k + 1, x3, x6, x11, x177000, x177001 => if x11 < (x6.length : Int) then (if 0 ≤ x11 then (if x11 < (x177000.length : Int) then ((topiaryref11_NameEnd.f k (rdOf ByteArray.empty x177000 x11) 0).bind fun t191 => (if rdOf false x6 x11 = true then (if (t191 = ((rdOf ByteArray.empty x177000 x11).size : Int)) then (if x11 > 0 then (if 0 ≤ (wrap64 (x11 - 1)) then (if (wrap64 (x11 - 1)) < (x177000.length : Int) then (if ((Op.bytesLess ((rdOf ByteArray.empty x177000 (wrap64 (x11 - 1))).toList) ((rdOf ByteArray.empty x177000 x11).toList)) = true) then (topiarylaw13_ParserStands.l2 k x3 x6 (wrap64 (x11 + 1)) x177000 x177001) else (some false)) else (none)) else (none)) else (topiarylaw13_ParserStands.l2 k x3 x6 (wrap64 (x11 + 1)) x177000 x177001)) else (some false)) else (some false))) else (none)) else (none)) else (if x3 = true then (some (decide ((x177001.length : Int) > 0))) else (some false))
end
def topiarylaw13_ParserStands.f (k : Nat) (a0 : ByteArray) : Option (Bool) := (topiarylaw13_awake.f).bind fun t167 => ((topiarylaw13_short.f a0 200).bind fun t168 => ((parser_Parse.f t168).bind fun bt169 => (if bt169.2.2 = 0 then (if 0 ≤ (bt169.1.length : Int) then (if ((bt169.1.length : Int) : Int).toNat ≤ 281474976710656 then (topiarylaw13_ParserStands.l0 k t167 (List.replicate ((bt169.1.length : Int) : Int).toNat false) 0 bt169.1 bt169.2.1) else (none)) else (none)) else (if t167 = true then (some ((wrap64 ((bt169.2.1.length : Int) + (bt169.1.length : Int))) == 0)) else (some false)))))
theorem topiarylaw13_ParserStands.mono_l : ∀ k, (∀ y0 y1 y2 y3 y4, LeO (topiarylaw13_ParserStands.l0 k y0 y1 y2 y3 y4) (topiarylaw13_ParserStands.l0 (k + 1) y0 y1 y2 y3 y4)) ∧ (∀ y0 y1 y2 y3 y4 y5 y6 y7 y8 y9, LeO (topiarylaw13_ParserStands.j1 k y0 y1 y2 y3 y4 y5 y6 y7 y8 y9) (topiarylaw13_ParserStands.j1 (k + 1) y0 y1 y2 y3 y4 y5 y6 y7 y8 y9)) ∧ (∀ y0 y1 y2 y3 y4 y5 y6 y7 y8 y9, LeO (topiarylaw13_ParserStands.j2 k y0 y1 y2 y3 y4 y5 y6 y7 y8 y9) (topiarylaw13_ParserStands.j2 (k + 1) y0 y1 y2 y3 y4 y5 y6 y7 y8 y9)) ∧ (∀ y0 y1 y2 y3 y4 y5 y6 y7 y8, LeO (topiarylaw13_ParserStands.j3 k y0 y1 y2 y3 y4 y5 y6 y7 y8) (topiarylaw13_ParserStands.j3 (k + 1) y0 y1 y2 y3 y4 y5 y6 y7 y8)) ∧ (∀ y0 y1 y2 y3 y4 y5 y6 y7 y8 y9 y10, LeO (topiarylaw13_ParserStands.l1 k y0 y1 y2 y3 y4 y5 y6 y7 y8 y9 y10) (topiarylaw13_ParserStands.l1 (k + 1) y0 y1 y2 y3 y4 y5 y6 y7 y8 y9 y10)) ∧ (∀ y0 y1 y2 y3 y4, LeO (topiarylaw13_ParserStands.l2 k y0 y1 y2 y3 y4) (topiarylaw13_ParserStands.l2 (k + 1) y0 y1 y2 y3 y4))
  | 0 => ⟨fun _ _ _ _ _ r h => by simp [topiarylaw13_ParserStands.l0] at h, fun _ _ _ _ _ _ _ _ _ _ r h => by simp [topiarylaw13_ParserStands.j1] at h, fun _ _ _ _ _ _ _ _ _ _ r h => by simp [topiarylaw13_ParserStands.j2] at h, fun _ _ _ _ _ _ _ _ _ r h => by simp [topiarylaw13_ParserStands.j3] at h, fun _ _ _ _ _ _ _ _ _ _ _ r h => by simp [topiarylaw13_ParserStands.l1] at h, fun _ _ _ _ _ r h => by simp [topiarylaw13_ParserStands.l2] at h⟩
  | k + 1 => by
    obtain ⟨ih0, ih1, ih2, ih3, ih4, ih5⟩ := topiarylaw13_ParserStands.mono_l k
    refine ⟨?_, ?_, ?_, ?_, ?_, ?_⟩
    · intro y0 y1 y2 y3 y4
      unfold topiarylaw13_ParserStands.l0
      repeat' first
      | (with_reducible exact ih0 _ _ _ _ _)
      | (with_reducible exact ih1 _ _ _ _ _ _ _ _ _ _)
      | (with_reducible exact ih2 _ _ _ _ _ _ _ _ _ _)
      | (with_reducible exact ih3 _ _ _ _ _ _ _ _ _)
      | (with_reducible exact ih4 _ _ _ _ _ _ _ _ _ _ _)
      | (with_reducible exact ih5 _ _ _ _ _)
      | (with_reducible exact topiaryref11_NameEnd.mono _ _ _)
      | (with_reducible exact LeO.refl _)
      | (with_reducible exact LeO.none _)
      | (with_reducible refine LeO.ite ?_ ?_)
      | (with_reducible refine LeO.bind ?_ (fun _ => ?_))
      | exact ih0 _ _ _ _ _
      | exact ih1 _ _ _ _ _ _ _ _ _ _
      | exact ih2 _ _ _ _ _ _ _ _ _ _
      | exact ih3 _ _ _ _ _ _ _ _ _
      | exact ih4 _ _ _ _ _ _ _ _ _ _ _
      | exact ih5 _ _ _ _ _
      | exact topiaryref11_NameEnd.mono _ _ _
      | exact LeO.none _
      | refine LeO.ite ?_ ?_
      | refine LeO.bind ?_ (fun _ => ?_)
    · intro y0 y1 y2 y3 y4 y5 y6 y7 y8 y9
      unfold topiarylaw13_ParserStands.j1
      repeat' first
      | (with_reducible exact ih0 _ _ _ _ _)
      | (with_reducible exact ih1 _ _ _ _ _ _ _ _ _ _)
      | (with_reducible exact ih2 _ _ _ _ _ _ _ _ _ _)
      | (with_reducible exact ih3 _ _ _ _ _ _ _ _ _)
      | (with_reducible exact ih4 _ _ _ _ _ _ _ _ _ _ _)
      | (with_reducible exact ih5 _ _ _ _ _)
      | (with_reducible exact topiaryref11_NameEnd.mono _ _ _)
      | (with_reducible exact LeO.refl _)
      | (with_reducible exact LeO.none _)
      | (with_reducible refine LeO.ite ?_ ?_)
      | (with_reducible refine LeO.bind ?_ (fun _ => ?_))
      | exact ih0 _ _ _ _ _
      | exact ih1 _ _ _ _ _ _ _ _ _ _
      | exact ih2 _ _ _ _ _ _ _ _ _ _
      | exact ih3 _ _ _ _ _ _ _ _ _
      | exact ih4 _ _ _ _ _ _ _ _ _ _ _
      | exact ih5 _ _ _ _ _
      | exact topiaryref11_NameEnd.mono _ _ _
      | exact LeO.none _
      | refine LeO.ite ?_ ?_
      | refine LeO.bind ?_ (fun _ => ?_)
    · intro y0 y1 y2 y3 y4 y5 y6 y7 y8 y9
      unfold topiarylaw13_ParserStands.j2
      repeat' first
      | (with_reducible exact ih0 _ _ _ _ _)
      | (with_reducible exact ih1 _ _ _ _ _ _ _ _ _ _)
      | (with_reducible exact ih2 _ _ _ _ _ _ _ _ _ _)
      | (with_reducible exact ih3 _ _ _ _ _ _ _ _ _)
      | (with_reducible exact ih4 _ _ _ _ _ _ _ _ _ _ _)
      | (with_reducible exact ih5 _ _ _ _ _)
      | (with_reducible exact topiaryref11_NameEnd.mono _ _ _)
      | (with_reducible exact LeO.refl _)
      | (with_reducible exact LeO.none _)
      | (with_reducible refine LeO.ite ?_ ?_)
      | (with_reducible refine LeO.bind ?_ (fun _ => ?_))
      | exact ih0 _ _ _ _ _
      | exact ih1 _ _ _ _ _ _ _ _ _ _
      | exact ih2 _ _ _ _ _ _ _ _ _ _
      | exact ih3 _ _ _ _ _ _ _ _ _
      | exact ih4 _ _ _ _ _ _ _ _ _ _ _
      | exact ih5 _ _ _ _ _
      | exact topiaryref11_NameEnd.mono _ _ _
      | exact LeO.none _
      | refine LeO.ite ?_ ?_
      | refine LeO.bind ?_ (fun _ => ?_)
    · intro y0 y1 y2 y3 y4 y5 y6 y7 y8
      unfold topiarylaw13_ParserStands.j3
      repeat' first
      | (with_reducible exact ih0 _ _ _ _ _)
      | (with_reducible exact ih1 _ _ _ _ _ _ _ _ _ _)
      | (with_reducible exact ih2 _ _ _ _ _ _ _ _ _ _)
      | (with_reducible exact ih3 _ _ _ _ _ _ _ _ _)
      | (with_reducible exact ih4 _ _ _ _ _ _ _ _ _ _ _)
      | (with_reducible exact ih5 _ _ _ _ _)
      | (with_reducible exact topiaryref11_NameEnd.mono _ _ _)
      | (with_reducible exact LeO.refl _)
      | (with_reducible exact LeO.none _)
      | (with_reducible refine LeO.ite ?_ ?_)
      | (with_reducible refine LeO.bind ?_ (fun _ => ?_))
      | exact ih0 _ _ _ _ _
      | exact ih1 _ _ _ _ _ _ _ _ _ _
      | exact ih2 _ _ _ _ _ _ _ _ _ _
      | exact ih3 _ _ _ _ _ _ _ _ _
      | exact ih4 _ _ _ _ _ _ _ _ _ _ _
      | exact ih5 _ _ _ _ _
      | exact topiaryref11_NameEnd.mono _ _ _
      | exact LeO.none _
      | refine LeO.ite ?_ ?_
      | refine LeO.bind ?_ (fun _ => ?_)
    · intro y0 y1 y2 y3 y4 y5 y6 y7 y8 y9 y10
      unfold topiarylaw13_ParserStands.l1
      repeat' first
      | (with_reducible exact ih0 _ _ _ _ _)
      | (with_reducible exact ih1 _ _ _ _ _ _ _ _ _ _)
      | (with_reducible exact ih2 _ _ _ _ _ _ _ _ _ _)
      | (with_reducible exact ih3 _ _ _ _ _ _ _ _ _)
      | (with_reducible exact ih4 _ _ _ _ _ _ _ _ _ _ _)
      | (with_reducible exact ih5 _ _ _ _ _)
      | (with_reducible exact topiaryref11_NameEnd.mono _ _ _)
      | (with_reducible exact LeO.refl _)
      | (with_reducible exact LeO.none _)
      | (with_reducible refine LeO.ite ?_ ?_)
      | (with_reducible refine LeO.bind ?_ (fun _ => ?_))
      | exact ih0 _ _ _ _ _
      | exact ih1 _ _ _ _ _ _ _ _ _ _
      | exact ih2 _ _ _ _ _ _ _ _ _ _
      | exact ih3 _ _ _ _ _ _ _ _ _
      | exact ih4 _ _ _ _ _ _ _ _ _ _ _
      | exact ih5 _ _ _ _ _
      | exact topiaryref11_NameEnd.mono _ _ _
      | exact LeO.none _
      | refine LeO.ite ?_ ?_
      | refine LeO.bind ?_ (fun _ => ?_)
    · intro y0 y1 y2 y3 y4
      unfold topiarylaw13_ParserStands.l2
      repeat' first
      | (with_reducible exact ih0 _ _ _ _ _)
      | (with_reducible exact ih1 _ _ _ _ _ _ _ _ _ _)
      | (with_reducible exact ih2 _ _ _ _ _ _ _ _ _ _)
      | (with_reducible exact ih3 _ _ _ _ _ _ _ _ _)
      | (with_reducible exact ih4 _ _ _ _ _ _ _ _ _ _ _)
      | (with_reducible exact ih5 _ _ _ _ _)
      | (with_reducible exact topiaryref11_NameEnd.mono _ _ _)
      | (with_reducible exact LeO.refl _)
      | (with_reducible exact LeO.none _)
      | (with_reducible refine LeO.ite ?_ ?_)
      | (with_reducible refine LeO.bind ?_ (fun _ => ?_))
      | exact ih0 _ _ _ _ _
      | exact ih1 _ _ _ _ _ _ _ _ _ _
      | exact ih2 _ _ _ _ _ _ _ _ _ _
      | exact ih3 _ _ _ _ _ _ _ _ _
      | exact ih4 _ _ _ _ _ _ _ _ _ _ _
      | exact ih5 _ _ _ _ _
      | exact topiaryref11_NameEnd.mono _ _ _
      | exact LeO.none _
      | refine LeO.ite ?_ ?_
      | refine LeO.bind ?_ (fun _ => ?_)
theorem topiarylaw13_ParserStands.mono : ∀ a0 k, LeO (topiarylaw13_ParserStands.f k a0) (topiarylaw13_ParserStands.f (k + 1) a0) := by
  intro a0 k
  obtain ⟨ih0, ih1, ih2, ih3, ih4, ih5⟩ := topiarylaw13_ParserStands.mono_l k
  unfold topiarylaw13_ParserStands.f
  repeat' first
      | (with_reducible exact ih0 _ _ _ _ _)
      | (with_reducible exact ih1 _ _ _ _ _ _ _ _ _ _)
      | (with_reducible exact ih2 _ _ _ _ _ _ _ _ _ _)
      | (with_reducible exact ih3 _ _ _ _ _ _ _ _ _)
      | (with_reducible exact ih4 _ _ _ _ _ _ _ _ _ _ _)
      | (with_reducible exact ih5 _ _ _ _ _)
      | (with_reducible exact topiaryref11_NameEnd.mono _ _ _)
      | (with_reducible exact LeO.refl _)
      | (with_reducible exact LeO.none _)
      | (with_reducible refine LeO.ite ?_ ?_)
      | (with_reducible refine LeO.bind ?_ (fun _ => ?_))
      | exact ih0 _ _ _ _ _
      | exact ih1 _ _ _ _ _ _ _ _ _ _
      | exact ih2 _ _ _ _ _ _ _ _ _ _
      | exact ih3 _ _ _ _ _ _ _ _ _
      | exact ih4 _ _ _ _ _ _ _ _ _ _ _
      | exact ih5 _ _ _ _ _
      | exact topiaryref11_NameEnd.mono _ _ _
      | exact LeO.none _
      | refine LeO.ite ?_ ?_
      | refine LeO.bind ?_ (fun _ => ?_)
set_option maxHeartbeats 8000000 in
set_option maxRecDepth 100000 in
theorem topiarylaw13_ParserStands.calls (k : Nat) (a0 : ByteArray) (r : Bool) (w : World) (hG : G w) (h : topiarylaw13_ParserStands.f k a0 = some r) :
    Calls Try.prog 3 #[.string a0] w fun e w' => e = .returned (.bool r) ∧ Below w.heap.size w w' := by
  have hu26 := Try.underlying26
  have hu33 := Try.underlying33
  have HB := Aside0.mk (Below.refl w.heap.size w)
  have H : ((topiarylaw13_awake.f).bind fun t167 => ((topiarylaw13_short.f a0 200).bind fun t168 => ((parser_Parse.f t168).bind fun bt169 => (if bt169.2.2 = 0 then (if 0 ≤ (bt169.1.length : Int) then (if ((bt169.1.length : Int) : Int).toNat ≤ 281474976710656 then (topiarylaw13_ParserStands.l0 k t167 (List.replicate ((bt169.1.length : Int) : Int).toNat false) 0 bt169.1 bt169.2.1) else (none)) else (none)) else (if t167 = true then (some ((wrap64 ((bt169.2.1.length : Int) + (bt169.1.length : Int))) == 0)) else (some false)))))) = some r := h
  clear h
  replace H := Option.bind_eq_some_iff.mp H
  obtain ⟨t167, A20, H⟩ := H
  replace H : ((topiarylaw13_short.f a0 200).bind fun t168 => ((parser_Parse.f t168).bind fun bt169 => (if bt169.2.2 = 0 then (if 0 ≤ (bt169.1.length : Int) then (if ((bt169.1.length : Int) : Int).toNat ≤ 281474976710656 then (topiarylaw13_ParserStands.l0 k t167 (List.replicate ((bt169.1.length : Int) : Int).toNat false) 0 bt169.1 bt169.2.1) else (none)) else (none)) else (if t167 = true then (some ((wrap64 ((bt169.2.1.length : Int) + (bt169.1.length : Int))) == 0)) else (some false))))) = some r := H
  have A2 := Aside0.mk A20
  clear A20
  replace H := Option.bind_eq_some_iff.mp H
  obtain ⟨t168, A30, H⟩ := H
  replace H : ((parser_Parse.f t168).bind fun bt169 => (if bt169.2.2 = 0 then (if 0 ≤ (bt169.1.length : Int) then (if ((bt169.1.length : Int) : Int).toNat ≤ 281474976710656 then (topiarylaw13_ParserStands.l0 k t167 (List.replicate ((bt169.1.length : Int) : Int).toNat false) 0 bt169.1 bt169.2.1) else (none)) else (none)) else (if t167 = true then (some ((wrap64 ((bt169.2.1.length : Int) + (bt169.1.length : Int))) == 0)) else (some false)))) = some r := H
  have A3 := Aside0.mk A30
  clear A30
  replace H := Option.bind_eq_some_iff.mp H
  obtain ⟨⟨t169, t172, t175⟩, A40, H⟩ := H
  replace H : (if t175 = 0 then (if 0 ≤ (t169.length : Int) then (if ((t169.length : Int) : Int).toNat ≤ 281474976710656 then (topiarylaw13_ParserStands.l0 k t167 (List.replicate ((t169.length : Int) : Int).toNat false) 0 t169 t172) else (none)) else (none)) else (if t167 = true then (some ((wrap64 ((t172.length : Int) + (t169.length : Int))) == 0)) else (some false))) = some r := H
  have A4 := Aside0.mk A40
  clear A40
  by_cases c5 : t175 = 0
  · rw [if_pos c5] at H
    have c5b0 : (t175 == 0) = true := beq_iff_eq.mpr c5
    have c5b1 : (t175 != 0) = false := bne_eq_false_iff_eq.mpr c5
    clear c5
    by_cases c6 : 0 ≤ (t169.length : Int)
    · rw [if_pos c6] at H
      have c6b0 := eq_true c6
      have c6b1 : decide (0 ≤ (t169.length : Int)) = true := decide_eq_true c6
      clear c6
      by_cases c7 : ((t169.length : Int) : Int).toNat ≤ 281474976710656
      · rw [if_pos c7] at H
        have c7b0 := eq_true c7
        have c7b1 : decide (((t169.length : Int) : Int).toNat ≤ 281474976710656) = true := decide_eq_true c7
        clear c7
        obtain ⟨y177, hy177⟩ : ∃ y_ : List Bool, y_ = (List.replicate ((t169.length : Int) : Int).toNat false) := ⟨_, rfl⟩
        replace H : (topiarylaw13_ParserStands.l0 k t167 y177 0 t169 t172) = some r := by first | (rw [hy177]; with_reducible exact H) | (have H2_ := (Option.bind_some _ _).symm.trans H; rw [hy177]; with_reducible exact H2_) | (have H2_ := (Option.bind_some _ _).symm.trans H; with_reducible exact H2_) | with_reducible exact H | (rw [hy177]; exact H) | exact H
        have Ny177 := Aside0.mk hy177
        clear hy177
        have H' := Aside0.mk H
        clear H
        go_enter Try.func3, Try.ntmps3
        go_wp2_with (first | (go_at_call 7; (with_reducible refine (topiarylaw13_awake.calls  t167 _ (by first | exact hG | exact G.below hG (by repeat (first | (with_reducible first | exact HB.out | apply below_alloc | apply pw_below_drewN | apply below_drew1) | exact HB.out))) A2.out).mono ?_); rintro e w8 ⟨rfl, hb⟩; have n0_ := Aside0.mk (below_step (by repeat (first | (with_reducible first | exact HB.out | apply below_alloc | apply pw_below_drewN | apply below_drew1) | exact HB.out)) hb); clear HB; have HB := n0_; clear n0_; (try clear hb); (try clear hb2); (try clear hk); (try clear hi)) | (go_at_call 9; (with_reducible refine (topiarylaw13_short.calls a0 200 t168 _ A3.out).mono ?_); rintro e w' ⟨rfl, ⟨nd, rfl⟩⟩; (try first | exact ⟨rfl, _, World.drewN_drewN _ _ _⟩ | exact ⟨rfl, _, Eq.trans (World.drewN_drewN _ _ _) (congrArg (World.drewN _) (Nat.add_assoc _ _ _))⟩)) | (go_at_call 8; (with_reducible refine (parser_Parse.calls t168 t169 t172 t175 _ (by first | exact hG | exact G.below hG (by repeat (first | (with_reducible first | exact HB.out | apply below_alloc | apply pw_below_drewN | apply below_drew1) | exact HB.out))) A4.out).mono ?_); rintro e w9 ⟨v170, v173, rfl, ho0, ho1, hb⟩; have n0_ := Aside0.mk (Kd.R_lower ho0 (below_size (by repeat (first | (with_reducible first | exact HB.out | apply below_alloc | apply pw_below_drewN | apply below_drew1) | exact HB.out)))); have n1_ := Aside0.mk (Kd.R_lower ho1 (below_size (by repeat (first | (with_reducible first | exact HB.out | apply below_alloc | apply pw_below_drewN | apply below_drew1) | exact HB.out)))); have n2_ := Aside0.mk (below_step (by repeat (first | (with_reducible first | exact HB.out | apply below_alloc | apply pw_below_drewN | apply below_drew1) | exact HB.out)) hb); clear HB; have HO171 := n0_; have HO174 := n1_; have HB := n2_; clear n0_ n1_ n2_; (try clear hb); (try clear hb2); (try clear hk); (try clear hi); (try clear ho0); (try clear ho1)) | ((with_reducible refine gate_dst (N := 4) rfl ?_); (try (refine gate_guard (by rfl) ?_; dsimp only)); refine box_event ?hg (N := 4) ?hd (cs := #[.slice none 0 0, .slice none 0 0]) (t := 26) ?hr ?_; (case hd => rfl); (case hg => rfl); (case hr => first | (go_simp; done) | (go_simp; rfl)); intro gb176 hg w10 hbox hb; have n0_ := Aside0.mk (Kd.R_below (by (with_reducible repeat (first | apply Kd.R_alloc | apply Kd.R_drewN | apply Kd.R_drew)); exact HO171.out) hb); have n1_ := Aside0.mk (Kd.R_below (by (with_reducible repeat (first | apply Kd.R_alloc | apply Kd.R_drewN | apply Kd.R_drew)); exact HO174.out) hb); have n2_ := Aside0.mk (below_step (by repeat (first | (with_reducible first | exact HB.out | apply below_alloc | apply pw_below_drewN | apply below_drew1) | exact HB.out)) hb); have n3_ := Aside0.mk (hbox); have n4_ := Aside0.mk ((by rw [hg]; exact (below_size (by repeat (first | (with_reducible first | exact HB.out | apply below_alloc | apply pw_below_drewN | apply below_drew1) | exact HB.out))) : w.heap.size ≤ gb176)); have n5_ := Aside0.mk ((by rw [hg]; exact (below_size (by repeat (first | (with_reducible first | exact HB.out | apply below_alloc | apply pw_below_drewN | apply below_drew1) | exact HB.out))) : w.heap.size ≤ gb176)); clear HO171; clear HO174; clear HB; have HO171 := n0_; have HO174 := n1_; have HB := n2_; have BK176 := n3_; have GW176 := n4_; have GE176 := n5_; clear n0_ n1_ n2_ n3_ n4_ n5_; clear hb hbox hg; obtain ⟨Ao11, co11, eo11⟩ := Kd.R_slice HO171.out; subst eo11; have hcz12_0 : w10.cell? ⟨gb176, 0, none⟩ = some (.slice none 0 0) := (blk_cell BK176.out 0).trans rfl; have hcz12_1 : w10.cell? ⟨gb176, 1, none⟩ = some (.slice none 0 0) := (blk_cell BK176.out 1).trans rfl; have hfz12_0 := blk_frozen BK176.out 0; have hfz12_1 := blk_frozen BK176.out 1; obtain ⟨Ao13, co13, eo13⟩ := Kd.R_slice HO174.out; subst eo13) | ((with_reducible refine gate_dst (N := 36) rfl ?_); (try (refine gate_guard (by rfl) ?_; dsimp only)); refine Kd.R_make Kd.bool _ 4 rfl (N := 36) rfl 31 _ _ rfl (t169.length : Int) rfl rfl Try.underlying31 (.bool false) 1 info4 rfl (by decide) (by omega) false (ok := fun _ => True) (okp := fun _ => True) rfl (fun _ hk => hk) trivial (of_decide_eq_true (by first | (with_reducible assumption) | assumption)) (Nat.le_trans (Nat.mul_le_mul_right _ (of_decide_eq_true (by first | (with_reducible assumption) | assumption) : (t169.length : Int).toNat ≤ 281474976710656)) (by omega)) (Below.refl _ _) (Nat.le_refl _) ?_; intro v178 w14 ho15 hb hg_ hnew_; clear hg_ hnew_; (first | rw [← Ny177.out] at ho15 | (simp only [Int.reduceToNat] at ho15; rw [← Ny177.out] at ho15)); have n0_ := Aside0.mk (Kd.R_below (by (with_reducible repeat (first | apply Kd.R_alloc | apply Kd.R_drewN | apply Kd.R_drew)); exact (Kd.R_mono (Kd.R_far (p := ⟨gb176, 1, none⟩) (Kd.R_far (p := ⟨gb176, 0, none⟩) (Kd.R_types HO171.out BK176.out (by decide)) (fun _ hk => hk.2) (.slice Ao11 t169.length co11)) (fun _ hk => hk.2) (.slice Ao13 t172.length co13)) (fun _ h_ => h_.1))) hb); have n1_ := Aside0.mk (Kd.R_below (by (with_reducible repeat (first | apply Kd.R_alloc | apply Kd.R_drewN | apply Kd.R_drew)); exact (Kd.R_mono (Kd.R_far (p := ⟨gb176, 1, none⟩) (Kd.R_far (p := ⟨gb176, 0, none⟩) (Kd.R_types HO174.out BK176.out (by decide)) (fun _ hk => hk.2) (.slice Ao11 t169.length co11)) (fun _ hk => hk.2) (.slice Ao13 t172.length co13)) (fun _ h_ => h_.1))) hb); have n2_ := Aside0.mk (Kd.R_lower ho15 (below_size (by repeat (first | (with_reducible first | exact HB.out | apply below_alloc | apply pw_below_drewN | apply below_drew1 | refine below_set ?_ GE176.out) | exact HB.out)))); have n3_ := Aside0.mk (blk_below (g := gb176) (o := .cells #[.slice Ao11 t169.length co11, .slice Ao13 t172.length co13] 26 (0, 0)) (by (with_reducible repeat (first | refine blk_drewN ?_ _ | refine blk_drew ?_ | refine blk_alloc ?_ _)); refine blk_put (cs := #[.slice Ao11 t169.length co11, .slice none 0 0]) ?_ 1 _ rfl; (with_reducible repeat (first | refine blk_drewN ?_ _ | refine blk_drew ?_ | refine blk_alloc ?_ _)); refine blk_put (cs := #[.slice none 0 0, .slice none 0 0]) ?_ 0 _ rfl; (with_reducible repeat (first | refine blk_drewN ?_ _ | refine blk_drew ?_ | refine blk_alloc ?_ _)); exact BK176.out) hb); have n4_ := Aside0.mk (below_step (by repeat (first | (with_reducible first | exact HB.out | apply below_alloc | apply pw_below_drewN | apply below_drew1 | refine below_set ?_ GE176.out) | exact HB.out)) hb); clear HO171; clear HO174; clear BK176; clear HB; have HO171 := n0_; have HO174 := n1_; have HO179 := n2_; have BK176 := n3_; have HB := n4_; clear n0_ n1_ n2_ n3_ n4_; clear hb ho15))
        repeat (go_quiet (fail); try go_wp2)
        go_loopg [7] k (fun kq v7 w' => ∃ (x6_1 : List Bool) (x7_1 : Int), v7 = .int .i64 x7_1 ∧ Aside0 (topiarylaw13_ParserStands.l0 kq t167 x6_1 x7_1 t169 t172 = some r) ∧ Aside0 (kq ≤ k) ∧ Aside0 (Kd.R Kd.bool 4 w' w.heap.size (fun _ => True) v178 x6_1) ∧ Aside0 (Kd.R Kd.string 9 w' w.heap.size (fun _ => True) (.slice Ao11 t169.length co11) t169) ∧ Aside0 (Kd.R k33 33 w' w.heap.size (fun _ => True) (.slice Ao13 t172.length co13) t172) ∧ Aside0 (w'.heap[gb176]? = some (.cells #[(.slice Ao11 t169.length co11), (.slice Ao13 t172.length co13)] 26 (0, 0))) ∧ Aside0 (Below w.heap.size w w'))
        case atStart => exact ⟨(y177), (0), (by first | rfl | (simp; done) | (simp [*]; done)), H', ⟨Nat.le_refl _⟩, ⟨by (with_reducible repeat (first | apply Kd.R_alloc | apply Kd.R_drewN | apply Kd.R_drew)); exact HO179.out⟩, ⟨by (with_reducible repeat (first | apply Kd.R_alloc | apply Kd.R_drewN | apply Kd.R_drew)); exact HO171.out⟩, ⟨by (with_reducible repeat (first | apply Kd.R_alloc | apply Kd.R_drewN | apply Kd.R_drew)); exact HO174.out⟩, ⟨by (with_reducible repeat (first | refine blk_drewN ?_ _ | refine blk_drew ?_ | refine blk_alloc ?_ _)); exact BK176.out⟩, ⟨by repeat (first | (with_reducible first | exact HB.out | apply below_alloc | apply pw_below_drewN | apply below_drew1 | refine below_set ?_ GE176.out) | exact HB.out)⟩⟩
        case round =>
         as_aux_lemma =>
          clear H'
          try clear p2
          try clear c3
          try clear c5
          try clear c5b0
          try clear c5b1
          try clear c6
          try clear c6b0
          try clear c6b1
          try clear p6
          try clear c7
          try clear c7b0
          try clear c7b1
          try clear hcz12_0
          try clear hcz12_1
          try clear hfz12_0
          try clear hfz12_1
          obtain ⟨x6_1, x7_1, rfl, HA, HK1, HO_6, HO_177000, HO_177001, BK176, HB⟩ := hrel
          cases gk with
          | zero => exact absurd HA.out (by simp [topiarylaw13_ParserStands.l0])
          | succ k1 =>
            have H := HA.out
            clear HA
            simp only [topiarylaw13_ParserStands.l0] at H
            by_cases c16 : x7_1 < (t172.length : Int)
            · rw [if_pos c16] at H
              have c16b0 : decide (x7_1 < (t172.length : Int)) = true := decide_eq_true c16
              clear c16
              by_cases c17 : 0 ≤ x7_1
              · rw [if_pos c17] at H
                have c17b0 : decide (0 ≤ x7_1) = true := decide_eq_true c17
                clear c17
                have HC18 := Aside0.mk H
                clear H
                have hcz19_0 : wr.cell? ⟨gb176, 0, none⟩ = some (.slice Ao11 t169.length co11) := (blk_cell BK176.out 0).trans rfl
                have hcz19_1 : wr.cell? ⟨gb176, 1, none⟩ = some (.slice Ao13 t172.length co13) := (blk_cell BK176.out 1).trans rfl
                have hfz19_0 := blk_frozen BK176.out 0
                have hfz19_1 := blk_frozen BK176.out 1
                have p180 : 0 ≤ (x7_1 : Int) := of_decide_eq_true (by first | (with_reducible assumption) | assumption)
                have q180 : x7_1 < (t172.length : Int) := of_decide_eq_true (by first | (with_reducible assumption) | assumption)
                obtain ⟨ad180, e180, hx180_0, hx180_1, hx180_2, hx180_3⟩ := at_T33 (Kd.R_reads' HO_177001.out).2.2 x7_1 p180 q180
                cases e180
                replace p180 := eq_true p180
                replace q180 := eq_true q180
                go_upto_region 10 with (first | ((with_reducible refine gate_dst (N := 8) rfl ?_); (try (refine gate_guard (by rfl) ?_; dsimp only)); refine box_event ?hg (N := 8) ?hd (cs := #[.int .i64 0, .int .i64 0, .int .i64 0, .string (⟨#[]⟩ : ByteArray)]) (t := 33) ?hr ?_; (case hd => rfl); (case hg => rfl); (case hr => first | (go_simp; done) | (go_simp; rfl)); intro gb181 hg w20 hbox hb; have n0_ := Aside0.mk (Kd.R_below (by (with_reducible repeat (first | apply Kd.R_alloc | apply Kd.R_drewN | apply Kd.R_drew)); exact HO_6.out) hb); have n1_ := Aside0.mk (Kd.R_below (by (with_reducible repeat (first | apply Kd.R_alloc | apply Kd.R_drewN | apply Kd.R_drew)); exact HO_177000.out) hb); have n2_ := Aside0.mk (Kd.R_below (Kd.R_elderB (by (with_reducible repeat (first | apply Kd.R_alloc | apply Kd.R_drewN | apply Kd.R_drew)); exact HO_177001.out) gb181 (Nat.le_of_eq hg.symm)) hb); have n3_ := Aside0.mk (blk_below (g := gb176) (o := .cells #[.slice Ao11 t169.length co11, .slice (some ad180) t172.length co13] 26 (0, 0)) (by (with_reducible repeat (first | refine blk_drewN ?_ _ | refine blk_drew ?_ | refine blk_alloc ?_ _)); exact BK176.out) hb); have n4_ := Aside0.mk (below_step (by repeat (first | (with_reducible first | exact HB.out | apply below_alloc | apply pw_below_drewN | apply below_drew1 | refine below_set ?_ GE176.out) | exact HB.out)) hb); have n5_ := Aside0.mk (hbox); have n6_ := Aside0.mk ((by rw [hg]; exact (below_size (by repeat (first | (with_reducible first | exact HB.out | apply below_alloc | apply pw_below_drewN | apply below_drew1 | refine below_set ?_ GE176.out) | exact HB.out))) : w.heap.size ≤ gb181)); have n7_ := Aside0.mk ((by rw [hg]; exact (below_size (by repeat (first | (with_reducible first | exact HB.out | apply below_alloc | apply pw_below_drewN | apply below_drew1 | refine below_set ?_ GE176.out) | exact HB.out))) : w.heap.size ≤ gb181)); have n8_ := Aside0.mk ((by rw [hg]; exact Nat.ne_of_lt (blk_lt (g := gb176) (o := .cells #[.slice Ao11 t169.length co11, .slice (some ad180) t172.length co13] 26 (0, 0)) (by (with_reducible repeat (first | refine blk_drewN ?_ _ | refine blk_drew ?_ | refine blk_alloc ?_ _)); exact BK176.out)) : gb176 ≠ gb181)); have n9_ := Aside0.mk ((by rw [hg]; exact Nat.ne_of_gt (blk_lt (g := gb176) (o := .cells #[.slice Ao11 t169.length co11, .slice (some ad180) t172.length co13] 26 (0, 0)) (by (with_reducible repeat (first | refine blk_drewN ?_ _ | refine blk_drew ?_ | refine blk_alloc ?_ _)); exact BK176.out)) : gb181 ≠ gb176)); clear HO_6; clear HO_177000; clear HO_177001; clear BK176; clear HB; have HO_6 := n0_; have HO_177000 := n1_; have HO_177001 := n2_; have BK176 := n3_; have HB := n4_; have BK181 := n5_; have GW181 := n6_; have GE181 := n7_; have NB176_181 := n8_; have NB181_176 := n9_; clear n0_ n1_ n2_ n3_ n4_ n5_ n6_ n7_ n8_ n9_; clear hb hbox hg; have hnb21 := NB181_176.out; have hnc21 := NB176_181.out; have hcz22_0 : w20.cell? ⟨gb181, 0, none⟩ = some (.int .i64 0) := (blk_cell BK181.out 0).trans rfl; have hcz22_1 : w20.cell? ⟨gb181, 1, none⟩ = some (.int .i64 0) := (blk_cell BK181.out 1).trans rfl; have hcz22_2 : w20.cell? ⟨gb181, 2, none⟩ = some (.int .i64 0) := (blk_cell BK181.out 2).trans rfl; have hcz22_3 : w20.cell? ⟨gb181, 3, none⟩ = some (.string (⟨#[]⟩ : ByteArray)) := (blk_cell BK181.out 3).trans rfl; have hfz22_0 := blk_frozen BK181.out 0; have hfz22_1 := blk_frozen BK181.out 1; have hfz22_2 := blk_frozen BK181.out 2; have hfz22_3 := blk_frozen BK181.out 3))
                repeat (go_quiet (fail); try go_wp2)
                (try simp only [Act.put, List.setIfInBounds_toArray, List.set_cons_zero, List.set_cons_succ])
                go_cut [70] (fun v70 wc => ∃ (kq : Nat) (x70_17 : Bool), v70 = .bool x70_17 ∧ Aside0 (topiarylaw13_ParserStands.j1 kq t167 x6_1 x7_1 x70_17 t169 t172 ((rd_T33 t172 x7_1).f0) ((rd_T33 t172 x7_1).f1) ((rd_T33 t172 x7_1).f2) ((rd_T33 t172 x7_1).f3) = some r) ∧ Aside0 (kq ≤ k1) ∧ Aside0 (Kd.R Kd.bool 4 wc w.heap.size (fun _ => True) v178 x6_1) ∧ Aside0 (Kd.R Kd.string 9 wc w.heap.size (fun _ => True) (.slice Ao11 t169.length co11) t169) ∧ Aside0 (Kd.R k33 33 wc w.heap.size (fun k_ => k_ ≠ gb181) (.slice (some ad180) t172.length co13) t172) ∧ Aside0 (wc.heap[gb176]? = some (.cells #[(.slice Ao11 t169.length co11), (.slice (some ad180) t172.length co13)] 26 (0, 0))) ∧ Aside0 (wc.heap[gb181]? = some (.cells #[.int .i64 ((rd_T33 t172 x7_1).f0), .int .i64 ((rd_T33 t172 x7_1).f1), .int .i64 ((rd_T33 t172 x7_1).f2), .string ((rd_T33 t172 x7_1).f3)] 33 (0, 0))) ∧ Aside0 (Below w.heap.size w wc))
                case first =>
                 as_aux_lemma =>
                  have H := HC18.out
                  clear HC18
                  by_cases c23 : ((decide (((rd_T33 t172 x7_1).f2) < 0)) != (x7_1 == 0)) = true
                  · rw [if_pos c23] at H
                    have c23b0 : ((decide (((rd_T33 t172 x7_1).f2) < 0)) != (x7_1 == 0)) = true := c23
                    (try (have c23b1 : decide ((decide (((rd_T33 t172 x7_1).f2) < 0)) = (x7_1 == 0)) = false := by simpa using c23))
                    (try (have c23b2 : ((decide (((rd_T33 t172 x7_1).f2) < 0)) == (x7_1 == 0)) = false := by simpa using c23))
                    (try (have c23b3 : ¬ ((decide (((rd_T33 t172 x7_1).f2) < 0)) = (x7_1 == 0)) := by simpa using c23))
                    clear c23
                    (first | rw [c23b0] | (simp only [i64_w, i32_w]; rw [c23b0]) | skip)
                    have H' := Aside0.mk H
                    clear H
                    have hnb24 := NB181_176.out
                    have hnc24 := NB176_181.out
                    have hcz25_0 : w20.cell? ⟨gb181, 0, none⟩ = some (.int .i64 0) := (blk_cell BK181.out 0).trans rfl
                    have hcz25_1 : w20.cell? ⟨gb181, 1, none⟩ = some (.int .i64 0) := (blk_cell BK181.out 1).trans rfl
                    have hcz25_2 : w20.cell? ⟨gb181, 2, none⟩ = some (.int .i64 0) := (blk_cell BK181.out 2).trans rfl
                    have hcz25_3 : w20.cell? ⟨gb181, 3, none⟩ = some (.string (⟨#[]⟩ : ByteArray)) := (blk_cell BK181.out 3).trans rfl
                    have hfz25_0 := blk_frozen BK181.out 0
                    have hfz25_1 := blk_frozen BK181.out 1
                    have hfz25_2 := blk_frozen BK181.out 2
                    have hfz25_3 := blk_frozen BK181.out 3
                    go_wp2
                    repeat (go_quiet (fail); try go_wp2)
                    go_meet
                    case rel => exact ⟨_, (true), (by first | rfl | (simp; done) | (simp [*]; done)), H', ⟨by have := HK1.out; first | omega | exact Nat.le_refl _⟩, ⟨by (with_reducible repeat (first | apply Kd.R_alloc | apply Kd.R_drewN | apply Kd.R_drew)); exact Kd.R_mono (Kd.R_far (p := ⟨gb181, 3, none⟩) (Kd.R_far (p := ⟨gb181, 2, none⟩) (Kd.R_far (p := ⟨gb181, 1, none⟩) (Kd.R_far (p := ⟨gb181, 0, none⟩) (Kd.R_types HO_6.out BK181.out (by decide)) (fun _ hk => hk.2) (.int .i64 ((rd_T33 t172 x7_1).f0))) (fun _ hk => hk.2) (.int .i64 ((rd_T33 t172 x7_1).f1))) (fun _ hk => hk.2) (.int .i64 ((rd_T33 t172 x7_1).f2))) (fun _ hk => hk.2) (.string ((rd_T33 t172 x7_1).f3))) (fun _ hk => trivial)⟩, ⟨by (with_reducible repeat (first | apply Kd.R_alloc | apply Kd.R_drewN | apply Kd.R_drew)); exact Kd.R_mono (Kd.R_far (p := ⟨gb181, 3, none⟩) (Kd.R_far (p := ⟨gb181, 2, none⟩) (Kd.R_far (p := ⟨gb181, 1, none⟩) (Kd.R_far (p := ⟨gb181, 0, none⟩) (Kd.R_types HO_177000.out BK181.out (by decide)) (fun _ hk => hk.2) (.int .i64 ((rd_T33 t172 x7_1).f0))) (fun _ hk => hk.2) (.int .i64 ((rd_T33 t172 x7_1).f1))) (fun _ hk => hk.2) (.int .i64 ((rd_T33 t172 x7_1).f2))) (fun _ hk => hk.2) (.string ((rd_T33 t172 x7_1).f3))) (fun _ hk => trivial)⟩, ⟨by (with_reducible repeat (first | apply Kd.R_alloc | apply Kd.R_drewN | apply Kd.R_drew)); exact Kd.R_mono (Kd.R_far (p := ⟨gb181, 3, none⟩) (Kd.R_far (p := ⟨gb181, 2, none⟩) (Kd.R_far (p := ⟨gb181, 1, none⟩) (Kd.R_far (p := ⟨gb181, 0, none⟩) (Kd.R_mono HO_177001.out (fun k_ hk => (⟨hk, hk.2⟩ : _ ∧ k_ ≠ gb181))) (fun _ hk => hk.2) (.int .i64 ((rd_T33 t172 x7_1).f0))) (fun _ hk => hk.2) (.int .i64 ((rd_T33 t172 x7_1).f1))) (fun _ hk => hk.2) (.int .i64 ((rd_T33 t172 x7_1).f2))) (fun _ hk => hk.2) (.string ((rd_T33 t172 x7_1).f3))) (fun _ hk => hk.1.2)⟩, ⟨by (with_reducible repeat (first | refine blk_drewN ?_ _ | refine blk_drew ?_ | refine blk_alloc ?_ _)); refine blk_far ?_ NB176_181.out _; (with_reducible repeat (first | refine blk_drewN ?_ _ | refine blk_drew ?_ | refine blk_alloc ?_ _)); refine blk_far ?_ NB176_181.out _; (with_reducible repeat (first | refine blk_drewN ?_ _ | refine blk_drew ?_ | refine blk_alloc ?_ _)); refine blk_far ?_ NB176_181.out _; (with_reducible repeat (first | refine blk_drewN ?_ _ | refine blk_drew ?_ | refine blk_alloc ?_ _)); refine blk_far ?_ NB176_181.out _; (with_reducible repeat (first | refine blk_drewN ?_ _ | refine blk_drew ?_ | refine blk_alloc ?_ _)); exact BK176.out⟩, ⟨by (with_reducible repeat (first | refine blk_drewN ?_ _ | refine blk_drew ?_ | refine blk_alloc ?_ _)); refine blk_put (cs := #[.int .i64 ((rd_T33 t172 x7_1).f0), .int .i64 ((rd_T33 t172 x7_1).f1), .int .i64 ((rd_T33 t172 x7_1).f2), .string (⟨#[]⟩ : ByteArray)]) ?_ 3 _ rfl; (with_reducible repeat (first | refine blk_drewN ?_ _ | refine blk_drew ?_ | refine blk_alloc ?_ _)); refine blk_put (cs := #[.int .i64 ((rd_T33 t172 x7_1).f0), .int .i64 ((rd_T33 t172 x7_1).f1), .int .i64 0, .string (⟨#[]⟩ : ByteArray)]) ?_ 2 _ rfl; (with_reducible repeat (first | refine blk_drewN ?_ _ | refine blk_drew ?_ | refine blk_alloc ?_ _)); refine blk_put (cs := #[.int .i64 ((rd_T33 t172 x7_1).f0), .int .i64 0, .int .i64 0, .string (⟨#[]⟩ : ByteArray)]) ?_ 1 _ rfl; (with_reducible repeat (first | refine blk_drewN ?_ _ | refine blk_drew ?_ | refine blk_alloc ?_ _)); refine blk_put (cs := #[.int .i64 0, .int .i64 0, .int .i64 0, .string (⟨#[]⟩ : ByteArray)]) ?_ 0 _ rfl; (with_reducible repeat (first | refine blk_drewN ?_ _ | refine blk_drew ?_ | refine blk_alloc ?_ _)); exact BK181.out⟩, ⟨by repeat (first | (with_reducible first | exact HB.out | apply below_alloc | apply pw_below_drewN | apply below_drew1 | refine below_set ?_ GE176.out | refine below_set ?_ GE181.out) | exact HB.out)⟩⟩
                  · rw [if_neg c23] at H
                    have c23b0 : ((decide (((rd_T33 t172 x7_1).f2) < 0)) != (x7_1 == 0)) = false := by simpa using c23
                    (try (have c23b1 : decide ((decide (((rd_T33 t172 x7_1).f2) < 0)) = (x7_1 == 0)) = true := by simpa using c23))
                    (try (have c23b2 : ((decide (((rd_T33 t172 x7_1).f2) < 0)) == (x7_1 == 0)) = true := by simpa using c23))
                    clear c23
                    (first | rw [c23b0] | (simp only [i64_w, i32_w]; rw [c23b0]) | skip)
                    by_cases c26 : ((rd_T33 t172 x7_1).f2) ≥ x7_1
                    · rw [if_pos c26] at H
                      have c26b0 : decide (x7_1 ≤ ((rd_T33 t172 x7_1).f2)) = true := decide_eq_true c26
                      clear c26
                      have H' := Aside0.mk H
                      clear H
                      have hnb27 := NB181_176.out
                      have hnc27 := NB176_181.out
                      have hcz28_0 : w20.cell? ⟨gb181, 0, none⟩ = some (.int .i64 0) := (blk_cell BK181.out 0).trans rfl
                      have hcz28_1 : w20.cell? ⟨gb181, 1, none⟩ = some (.int .i64 0) := (blk_cell BK181.out 1).trans rfl
                      have hcz28_2 : w20.cell? ⟨gb181, 2, none⟩ = some (.int .i64 0) := (blk_cell BK181.out 2).trans rfl
                      have hcz28_3 : w20.cell? ⟨gb181, 3, none⟩ = some (.string (⟨#[]⟩ : ByteArray)) := (blk_cell BK181.out 3).trans rfl
                      have hfz28_0 := blk_frozen BK181.out 0
                      have hfz28_1 := blk_frozen BK181.out 1
                      have hfz28_2 := blk_frozen BK181.out 2
                      have hfz28_3 := blk_frozen BK181.out 3
                      go_wp2
                      repeat (go_quiet (fail); try go_wp2)
                      go_meet
                      case rel => exact ⟨_, (true), (by first | rfl | (simp; done) | (simp [*]; done)), H', ⟨by have := HK1.out; first | omega | exact Nat.le_refl _⟩, ⟨by (with_reducible repeat (first | apply Kd.R_alloc | apply Kd.R_drewN | apply Kd.R_drew)); exact Kd.R_mono (Kd.R_far (p := ⟨gb181, 3, none⟩) (Kd.R_far (p := ⟨gb181, 2, none⟩) (Kd.R_far (p := ⟨gb181, 1, none⟩) (Kd.R_far (p := ⟨gb181, 0, none⟩) (Kd.R_types HO_6.out BK181.out (by decide)) (fun _ hk => hk.2) (.int .i64 ((rd_T33 t172 x7_1).f0))) (fun _ hk => hk.2) (.int .i64 ((rd_T33 t172 x7_1).f1))) (fun _ hk => hk.2) (.int .i64 ((rd_T33 t172 x7_1).f2))) (fun _ hk => hk.2) (.string ((rd_T33 t172 x7_1).f3))) (fun _ hk => trivial)⟩, ⟨by (with_reducible repeat (first | apply Kd.R_alloc | apply Kd.R_drewN | apply Kd.R_drew)); exact Kd.R_mono (Kd.R_far (p := ⟨gb181, 3, none⟩) (Kd.R_far (p := ⟨gb181, 2, none⟩) (Kd.R_far (p := ⟨gb181, 1, none⟩) (Kd.R_far (p := ⟨gb181, 0, none⟩) (Kd.R_types HO_177000.out BK181.out (by decide)) (fun _ hk => hk.2) (.int .i64 ((rd_T33 t172 x7_1).f0))) (fun _ hk => hk.2) (.int .i64 ((rd_T33 t172 x7_1).f1))) (fun _ hk => hk.2) (.int .i64 ((rd_T33 t172 x7_1).f2))) (fun _ hk => hk.2) (.string ((rd_T33 t172 x7_1).f3))) (fun _ hk => trivial)⟩, ⟨by (with_reducible repeat (first | apply Kd.R_alloc | apply Kd.R_drewN | apply Kd.R_drew)); exact Kd.R_mono (Kd.R_far (p := ⟨gb181, 3, none⟩) (Kd.R_far (p := ⟨gb181, 2, none⟩) (Kd.R_far (p := ⟨gb181, 1, none⟩) (Kd.R_far (p := ⟨gb181, 0, none⟩) (Kd.R_mono HO_177001.out (fun k_ hk => (⟨hk, hk.2⟩ : _ ∧ k_ ≠ gb181))) (fun _ hk => hk.2) (.int .i64 ((rd_T33 t172 x7_1).f0))) (fun _ hk => hk.2) (.int .i64 ((rd_T33 t172 x7_1).f1))) (fun _ hk => hk.2) (.int .i64 ((rd_T33 t172 x7_1).f2))) (fun _ hk => hk.2) (.string ((rd_T33 t172 x7_1).f3))) (fun _ hk => hk.1.2)⟩, ⟨by (with_reducible repeat (first | refine blk_drewN ?_ _ | refine blk_drew ?_ | refine blk_alloc ?_ _)); refine blk_far ?_ NB176_181.out _; (with_reducible repeat (first | refine blk_drewN ?_ _ | refine blk_drew ?_ | refine blk_alloc ?_ _)); refine blk_far ?_ NB176_181.out _; (with_reducible repeat (first | refine blk_drewN ?_ _ | refine blk_drew ?_ | refine blk_alloc ?_ _)); refine blk_far ?_ NB176_181.out _; (with_reducible repeat (first | refine blk_drewN ?_ _ | refine blk_drew ?_ | refine blk_alloc ?_ _)); refine blk_far ?_ NB176_181.out _; (with_reducible repeat (first | refine blk_drewN ?_ _ | refine blk_drew ?_ | refine blk_alloc ?_ _)); exact BK176.out⟩, ⟨by (with_reducible repeat (first | refine blk_drewN ?_ _ | refine blk_drew ?_ | refine blk_alloc ?_ _)); refine blk_put (cs := #[.int .i64 ((rd_T33 t172 x7_1).f0), .int .i64 ((rd_T33 t172 x7_1).f1), .int .i64 ((rd_T33 t172 x7_1).f2), .string (⟨#[]⟩ : ByteArray)]) ?_ 3 _ rfl; (with_reducible repeat (first | refine blk_drewN ?_ _ | refine blk_drew ?_ | refine blk_alloc ?_ _)); refine blk_put (cs := #[.int .i64 ((rd_T33 t172 x7_1).f0), .int .i64 ((rd_T33 t172 x7_1).f1), .int .i64 0, .string (⟨#[]⟩ : ByteArray)]) ?_ 2 _ rfl; (with_reducible repeat (first | refine blk_drewN ?_ _ | refine blk_drew ?_ | refine blk_alloc ?_ _)); refine blk_put (cs := #[.int .i64 ((rd_T33 t172 x7_1).f0), .int .i64 0, .int .i64 0, .string (⟨#[]⟩ : ByteArray)]) ?_ 1 _ rfl; (with_reducible repeat (first | refine blk_drewN ?_ _ | refine blk_drew ?_ | refine blk_alloc ?_ _)); refine blk_put (cs := #[.int .i64 0, .int .i64 0, .int .i64 0, .string (⟨#[]⟩ : ByteArray)]) ?_ 0 _ rfl; (with_reducible repeat (first | refine blk_drewN ?_ _ | refine blk_drew ?_ | refine blk_alloc ?_ _)); exact BK181.out⟩, ⟨by repeat (first | (with_reducible first | exact HB.out | apply below_alloc | apply pw_below_drewN | apply below_drew1 | refine below_set ?_ GE176.out | refine below_set ?_ GE181.out) | exact HB.out)⟩⟩
                    · rw [if_neg c26] at H
                      have c26b0 : decide (x7_1 ≤ ((rd_T33 t172 x7_1).f2)) = false := decide_eq_false c26
                      clear c26
                      by_cases c29 : ((rd_T33 t172 x7_1).f0) < 1
                      · rw [if_pos c29] at H
                        have c29b0 : decide (((rd_T33 t172 x7_1).f0) < 1) = true := decide_eq_true c29
                        clear c29
                        have H' := Aside0.mk H
                        clear H
                        have hnb30 := NB181_176.out
                        have hnc30 := NB176_181.out
                        have hcz31_0 : w20.cell? ⟨gb181, 0, none⟩ = some (.int .i64 0) := (blk_cell BK181.out 0).trans rfl
                        have hcz31_1 : w20.cell? ⟨gb181, 1, none⟩ = some (.int .i64 0) := (blk_cell BK181.out 1).trans rfl
                        have hcz31_2 : w20.cell? ⟨gb181, 2, none⟩ = some (.int .i64 0) := (blk_cell BK181.out 2).trans rfl
                        have hcz31_3 : w20.cell? ⟨gb181, 3, none⟩ = some (.string (⟨#[]⟩ : ByteArray)) := (blk_cell BK181.out 3).trans rfl
                        have hfz31_0 := blk_frozen BK181.out 0
                        have hfz31_1 := blk_frozen BK181.out 1
                        have hfz31_2 := blk_frozen BK181.out 2
                        have hfz31_3 := blk_frozen BK181.out 3
                        go_wp2
                        repeat (go_quiet (fail); try go_wp2)
                        go_meet
                        case rel => exact ⟨_, (true), (by first | rfl | (simp; done) | (simp [*]; done)), H', ⟨by have := HK1.out; first | omega | exact Nat.le_refl _⟩, ⟨by (with_reducible repeat (first | apply Kd.R_alloc | apply Kd.R_drewN | apply Kd.R_drew)); exact Kd.R_mono (Kd.R_far (p := ⟨gb181, 3, none⟩) (Kd.R_far (p := ⟨gb181, 2, none⟩) (Kd.R_far (p := ⟨gb181, 1, none⟩) (Kd.R_far (p := ⟨gb181, 0, none⟩) (Kd.R_types HO_6.out BK181.out (by decide)) (fun _ hk => hk.2) (.int .i64 ((rd_T33 t172 x7_1).f0))) (fun _ hk => hk.2) (.int .i64 ((rd_T33 t172 x7_1).f1))) (fun _ hk => hk.2) (.int .i64 ((rd_T33 t172 x7_1).f2))) (fun _ hk => hk.2) (.string ((rd_T33 t172 x7_1).f3))) (fun _ hk => trivial)⟩, ⟨by (with_reducible repeat (first | apply Kd.R_alloc | apply Kd.R_drewN | apply Kd.R_drew)); exact Kd.R_mono (Kd.R_far (p := ⟨gb181, 3, none⟩) (Kd.R_far (p := ⟨gb181, 2, none⟩) (Kd.R_far (p := ⟨gb181, 1, none⟩) (Kd.R_far (p := ⟨gb181, 0, none⟩) (Kd.R_types HO_177000.out BK181.out (by decide)) (fun _ hk => hk.2) (.int .i64 ((rd_T33 t172 x7_1).f0))) (fun _ hk => hk.2) (.int .i64 ((rd_T33 t172 x7_1).f1))) (fun _ hk => hk.2) (.int .i64 ((rd_T33 t172 x7_1).f2))) (fun _ hk => hk.2) (.string ((rd_T33 t172 x7_1).f3))) (fun _ hk => trivial)⟩, ⟨by (with_reducible repeat (first | apply Kd.R_alloc | apply Kd.R_drewN | apply Kd.R_drew)); exact Kd.R_mono (Kd.R_far (p := ⟨gb181, 3, none⟩) (Kd.R_far (p := ⟨gb181, 2, none⟩) (Kd.R_far (p := ⟨gb181, 1, none⟩) (Kd.R_far (p := ⟨gb181, 0, none⟩) (Kd.R_mono HO_177001.out (fun k_ hk => (⟨hk, hk.2⟩ : _ ∧ k_ ≠ gb181))) (fun _ hk => hk.2) (.int .i64 ((rd_T33 t172 x7_1).f0))) (fun _ hk => hk.2) (.int .i64 ((rd_T33 t172 x7_1).f1))) (fun _ hk => hk.2) (.int .i64 ((rd_T33 t172 x7_1).f2))) (fun _ hk => hk.2) (.string ((rd_T33 t172 x7_1).f3))) (fun _ hk => hk.1.2)⟩, ⟨by (with_reducible repeat (first | refine blk_drewN ?_ _ | refine blk_drew ?_ | refine blk_alloc ?_ _)); refine blk_far ?_ NB176_181.out _; (with_reducible repeat (first | refine blk_drewN ?_ _ | refine blk_drew ?_ | refine blk_alloc ?_ _)); refine blk_far ?_ NB176_181.out _; (with_reducible repeat (first | refine blk_drewN ?_ _ | refine blk_drew ?_ | refine blk_alloc ?_ _)); refine blk_far ?_ NB176_181.out _; (with_reducible repeat (first | refine blk_drewN ?_ _ | refine blk_drew ?_ | refine blk_alloc ?_ _)); refine blk_far ?_ NB176_181.out _; (with_reducible repeat (first | refine blk_drewN ?_ _ | refine blk_drew ?_ | refine blk_alloc ?_ _)); exact BK176.out⟩, ⟨by (with_reducible repeat (first | refine blk_drewN ?_ _ | refine blk_drew ?_ | refine blk_alloc ?_ _)); refine blk_put (cs := #[.int .i64 ((rd_T33 t172 x7_1).f0), .int .i64 ((rd_T33 t172 x7_1).f1), .int .i64 ((rd_T33 t172 x7_1).f2), .string (⟨#[]⟩ : ByteArray)]) ?_ 3 _ rfl; (with_reducible repeat (first | refine blk_drewN ?_ _ | refine blk_drew ?_ | refine blk_alloc ?_ _)); refine blk_put (cs := #[.int .i64 ((rd_T33 t172 x7_1).f0), .int .i64 ((rd_T33 t172 x7_1).f1), .int .i64 0, .string (⟨#[]⟩ : ByteArray)]) ?_ 2 _ rfl; (with_reducible repeat (first | refine blk_drewN ?_ _ | refine blk_drew ?_ | refine blk_alloc ?_ _)); refine blk_put (cs := #[.int .i64 ((rd_T33 t172 x7_1).f0), .int .i64 0, .int .i64 0, .string (⟨#[]⟩ : ByteArray)]) ?_ 1 _ rfl; (with_reducible repeat (first | refine blk_drewN ?_ _ | refine blk_drew ?_ | refine blk_alloc ?_ _)); refine blk_put (cs := #[.int .i64 0, .int .i64 0, .int .i64 0, .string (⟨#[]⟩ : ByteArray)]) ?_ 0 _ rfl; (with_reducible repeat (first | refine blk_drewN ?_ _ | refine blk_drew ?_ | refine blk_alloc ?_ _)); exact BK181.out⟩, ⟨by repeat (first | (with_reducible first | exact HB.out | apply below_alloc | apply pw_below_drewN | apply below_drew1 | refine below_set ?_ GE176.out | refine below_set ?_ GE181.out) | exact HB.out)⟩⟩
                      · rw [if_neg c29] at H
                        have c29b0 : decide (((rd_T33 t172 x7_1).f0) < 1) = false := decide_eq_false c29
                        clear c29
                        have H' := Aside0.mk H
                        clear H
                        have hnb32 := NB181_176.out
                        have hnc32 := NB176_181.out
                        have hcz33_0 : w20.cell? ⟨gb181, 0, none⟩ = some (.int .i64 0) := (blk_cell BK181.out 0).trans rfl
                        have hcz33_1 : w20.cell? ⟨gb181, 1, none⟩ = some (.int .i64 0) := (blk_cell BK181.out 1).trans rfl
                        have hcz33_2 : w20.cell? ⟨gb181, 2, none⟩ = some (.int .i64 0) := (blk_cell BK181.out 2).trans rfl
                        have hcz33_3 : w20.cell? ⟨gb181, 3, none⟩ = some (.string (⟨#[]⟩ : ByteArray)) := (blk_cell BK181.out 3).trans rfl
                        have hfz33_0 := blk_frozen BK181.out 0
                        have hfz33_1 := blk_frozen BK181.out 1
                        have hfz33_2 := blk_frozen BK181.out 2
                        have hfz33_3 := blk_frozen BK181.out 3
                        go_wp2
                        repeat (go_quiet (fail); try go_wp2)
                        go_meet
                        case rel => exact ⟨_, (decide (((rd_T33 t172 x7_1).f0) > 3)), (by first | rfl | (simp; done) | (simp [*]; done)), H', ⟨by have := HK1.out; first | omega | exact Nat.le_refl _⟩, ⟨by (with_reducible repeat (first | apply Kd.R_alloc | apply Kd.R_drewN | apply Kd.R_drew)); exact Kd.R_mono (Kd.R_far (p := ⟨gb181, 3, none⟩) (Kd.R_far (p := ⟨gb181, 2, none⟩) (Kd.R_far (p := ⟨gb181, 1, none⟩) (Kd.R_far (p := ⟨gb181, 0, none⟩) (Kd.R_types HO_6.out BK181.out (by decide)) (fun _ hk => hk.2) (.int .i64 ((rd_T33 t172 x7_1).f0))) (fun _ hk => hk.2) (.int .i64 ((rd_T33 t172 x7_1).f1))) (fun _ hk => hk.2) (.int .i64 ((rd_T33 t172 x7_1).f2))) (fun _ hk => hk.2) (.string ((rd_T33 t172 x7_1).f3))) (fun _ hk => trivial)⟩, ⟨by (with_reducible repeat (first | apply Kd.R_alloc | apply Kd.R_drewN | apply Kd.R_drew)); exact Kd.R_mono (Kd.R_far (p := ⟨gb181, 3, none⟩) (Kd.R_far (p := ⟨gb181, 2, none⟩) (Kd.R_far (p := ⟨gb181, 1, none⟩) (Kd.R_far (p := ⟨gb181, 0, none⟩) (Kd.R_types HO_177000.out BK181.out (by decide)) (fun _ hk => hk.2) (.int .i64 ((rd_T33 t172 x7_1).f0))) (fun _ hk => hk.2) (.int .i64 ((rd_T33 t172 x7_1).f1))) (fun _ hk => hk.2) (.int .i64 ((rd_T33 t172 x7_1).f2))) (fun _ hk => hk.2) (.string ((rd_T33 t172 x7_1).f3))) (fun _ hk => trivial)⟩, ⟨by (with_reducible repeat (first | apply Kd.R_alloc | apply Kd.R_drewN | apply Kd.R_drew)); exact Kd.R_mono (Kd.R_far (p := ⟨gb181, 3, none⟩) (Kd.R_far (p := ⟨gb181, 2, none⟩) (Kd.R_far (p := ⟨gb181, 1, none⟩) (Kd.R_far (p := ⟨gb181, 0, none⟩) (Kd.R_mono HO_177001.out (fun k_ hk => (⟨hk, hk.2⟩ : _ ∧ k_ ≠ gb181))) (fun _ hk => hk.2) (.int .i64 ((rd_T33 t172 x7_1).f0))) (fun _ hk => hk.2) (.int .i64 ((rd_T33 t172 x7_1).f1))) (fun _ hk => hk.2) (.int .i64 ((rd_T33 t172 x7_1).f2))) (fun _ hk => hk.2) (.string ((rd_T33 t172 x7_1).f3))) (fun _ hk => hk.1.2)⟩, ⟨by (with_reducible repeat (first | refine blk_drewN ?_ _ | refine blk_drew ?_ | refine blk_alloc ?_ _)); refine blk_far ?_ NB176_181.out _; (with_reducible repeat (first | refine blk_drewN ?_ _ | refine blk_drew ?_ | refine blk_alloc ?_ _)); refine blk_far ?_ NB176_181.out _; (with_reducible repeat (first | refine blk_drewN ?_ _ | refine blk_drew ?_ | refine blk_alloc ?_ _)); refine blk_far ?_ NB176_181.out _; (with_reducible repeat (first | refine blk_drewN ?_ _ | refine blk_drew ?_ | refine blk_alloc ?_ _)); refine blk_far ?_ NB176_181.out _; (with_reducible repeat (first | refine blk_drewN ?_ _ | refine blk_drew ?_ | refine blk_alloc ?_ _)); exact BK176.out⟩, ⟨by (with_reducible repeat (first | refine blk_drewN ?_ _ | refine blk_drew ?_ | refine blk_alloc ?_ _)); refine blk_put (cs := #[.int .i64 ((rd_T33 t172 x7_1).f0), .int .i64 ((rd_T33 t172 x7_1).f1), .int .i64 ((rd_T33 t172 x7_1).f2), .string (⟨#[]⟩ : ByteArray)]) ?_ 3 _ rfl; (with_reducible repeat (first | refine blk_drewN ?_ _ | refine blk_drew ?_ | refine blk_alloc ?_ _)); refine blk_put (cs := #[.int .i64 ((rd_T33 t172 x7_1).f0), .int .i64 ((rd_T33 t172 x7_1).f1), .int .i64 0, .string (⟨#[]⟩ : ByteArray)]) ?_ 2 _ rfl; (with_reducible repeat (first | refine blk_drewN ?_ _ | refine blk_drew ?_ | refine blk_alloc ?_ _)); refine blk_put (cs := #[.int .i64 ((rd_T33 t172 x7_1).f0), .int .i64 0, .int .i64 0, .string (⟨#[]⟩ : ByteArray)]) ?_ 1 _ rfl; (with_reducible repeat (first | refine blk_drewN ?_ _ | refine blk_drew ?_ | refine blk_alloc ?_ _)); refine blk_put (cs := #[.int .i64 0, .int .i64 0, .int .i64 0, .string (⟨#[]⟩ : ByteArray)]) ?_ 0 _ rfl; (with_reducible repeat (first | refine blk_drewN ?_ _ | refine blk_drew ?_ | refine blk_alloc ?_ _)); exact BK181.out⟩, ⟨by repeat (first | (with_reducible first | exact HB.out | apply below_alloc | apply pw_below_drewN | apply below_drew1 | refine below_set ?_ GE176.out | refine below_set ?_ GE181.out) | exact HB.out)⟩⟩
                case rest =>
                 as_aux_lemma =>
                  clear HC18
                  try clear c1
                  try clear p1
                  try clear q1
                  try clear hx1
                  try clear c2
                  try clear p2
                  try clear c3
                  try clear c5
                  try clear c5b0
                  try clear c5b1
                  try clear c6
                  try clear c6b0
                  try clear c6b1
                  try clear p6
                  try clear c7
                  try clear c7b0
                  try clear c7b1
                  try clear c16
                  try clear c16b0
                  try clear c17
                  try clear c17b0
                  try clear p18
                  try clear q18
                  try clear hx18
                  try clear c21
                  try clear c23
                  try clear c23b0
                  try clear c23b1
                  try clear c23b2
                  try clear c24
                  try clear c26
                  try clear c26b0
                  try clear c27
                  try clear c29
                  try clear c29b0
                  try clear c30
                  try clear c32
                  try clear hcz12_0
                  try clear hcz12_1
                  try clear hcz19_0
                  try clear hcz19_1
                  try clear hcz22_0
                  try clear hcz22_1
                  try clear hcz22_2
                  try clear hcz22_3
                  try clear hcz25_0
                  try clear hcz25_1
                  try clear hcz25_2
                  try clear hcz25_3
                  try clear hcz28_0
                  try clear hcz28_1
                  try clear hcz28_2
                  try clear hcz28_3
                  try clear hcz31_0
                  try clear hcz31_1
                  try clear hcz31_2
                  try clear hcz31_3
                  try clear hcz33_0
                  try clear hcz33_1
                  try clear hcz33_2
                  try clear hcz33_3
                  try clear hfz12_0
                  try clear hfz12_1
                  try clear hfz19_0
                  try clear hfz19_1
                  try clear hfz22_0
                  try clear hfz22_1
                  try clear hfz22_2
                  try clear hfz22_3
                  try clear hfz25_0
                  try clear hfz25_1
                  try clear hfz25_2
                  try clear hfz25_3
                  try clear hfz28_0
                  try clear hfz28_1
                  try clear hfz28_2
                  try clear hfz28_3
                  try clear hfz31_0
                  try clear hfz31_1
                  try clear hfz31_2
                  try clear hfz31_3
                  try clear hfz33_0
                  try clear hfz33_1
                  try clear hfz33_2
                  try clear hfz33_3
                  try clear hx180_0
                  try clear hx180_1
                  try clear hx180_2
                  try clear hx180_3
                  try clear p180
                  try clear p2
                  try clear p6
                  try clear q180
                  obtain ⟨kq, x70_17, rfl, HA, HJ17, HO_6, HO_177000, HO_177001, BK176, BK181, HB⟩ := hcut
                  cases kq with
                  | zero => exact absurd HA.out (by simp [topiarylaw13_ParserStands.j1])
                  | succ kj17 =>
                    have H := HA.out
                    clear HA
                    simp only [topiarylaw13_ParserStands.j1] at H
                    by_cases c34 : x70_17 = true
                    · subst c34
                      have H1 : (some false) = some r := by rw [if_pos rfl] at H; exact H
                      clear H
                      have H := H1
                      clear H1
                      obtain rfl := Option.some.inj H
                      go_wp2
                      repeat (go_quiet (fail); try go_wp2)
                      go_ret
                      exact ⟨by first | rfl | (simp [errW_none, errW_some] <;> rfl) | (simp [*, errW_none, errW_some] <;> rfl), by repeat (first | (with_reducible first | exact HB.out | apply below_alloc | apply pw_below_drewN | apply below_drew1 | refine below_set ?_ GE176.out | refine below_set ?_ GE181.out) | exact HB.out)⟩
                    · replace c34 := Bool.eq_false_iff.mpr c34
                      subst c34
                      have H1 : (if x7_1 = 0 then (if ((rd_T33 t172 x7_1).f0) = 1 then (if x7_1 > 0 then (if 0 ≤ ((rd_T33 t172 x7_1).f2) then (if ((rd_T33 t172 x7_1).f2) < (t172.length : Int) then (topiarylaw13_ParserStands.j2 kj17 t167 x6_1 x7_1 (((rd_T33 t172 ((rd_T33 t172 x7_1).f2)).f0) != 1) t169 t172 ((rd_T33 t172 x7_1).f0) ((rd_T33 t172 x7_1).f1) ((rd_T33 t172 x7_1).f2) ((rd_T33 t172 x7_1).f3)) else (none)) else (none)) else (topiarylaw13_ParserStands.j2 kj17 t167 x6_1 x7_1 false t169 t172 ((rd_T33 t172 x7_1).f0) ((rd_T33 t172 x7_1).f1) ((rd_T33 t172 x7_1).f2) ((rd_T33 t172 x7_1).f3))) else (topiarylaw13_ParserStands.j2 kj17 t167 x6_1 x7_1 true t169 t172 ((rd_T33 t172 x7_1).f0) ((rd_T33 t172 x7_1).f1) ((rd_T33 t172 x7_1).f2) ((rd_T33 t172 x7_1).f3))) else (if x7_1 > 0 then (if 0 ≤ ((rd_T33 t172 x7_1).f2) then (if ((rd_T33 t172 x7_1).f2) < (t172.length : Int) then (topiarylaw13_ParserStands.j2 kj17 t167 x6_1 x7_1 (((rd_T33 t172 ((rd_T33 t172 x7_1).f2)).f0) != 1) t169 t172 ((rd_T33 t172 x7_1).f0) ((rd_T33 t172 x7_1).f1) ((rd_T33 t172 x7_1).f2) ((rd_T33 t172 x7_1).f3)) else (none)) else (none)) else (topiarylaw13_ParserStands.j2 kj17 t167 x6_1 x7_1 false t169 t172 ((rd_T33 t172 x7_1).f0) ((rd_T33 t172 x7_1).f1) ((rd_T33 t172 x7_1).f2) ((rd_T33 t172 x7_1).f3)))) = some r := by rw [if_neg (show ¬ (false = true) by decide)] at H; exact H
                      clear H
                      have H := H1
                      clear H1
                      have HC35 := Aside0.mk H
                      clear H
                      go_upto_region 12 with (fail)
                      repeat (go_quiet (fail); go_upto_region 12 with (fail))
                      go_cut [91] (fun v91 wc => ∃ (kq : Nat) (x91_34 : Bool), v91 = .bool x91_34 ∧ Aside0 (topiarylaw13_ParserStands.j2 kq t167 x6_1 x7_1 x91_34 t169 t172 ((rd_T33 t172 x7_1).f0) ((rd_T33 t172 x7_1).f1) ((rd_T33 t172 x7_1).f2) ((rd_T33 t172 x7_1).f3) = some r) ∧ Aside0 (kq ≤ kj17) ∧ Aside0 (Kd.R Kd.bool 4 wc w.heap.size (fun _ => True) v178 x6_1) ∧ Aside0 (Kd.R Kd.string 9 wc w.heap.size (fun _ => True) (.slice Ao11 t169.length co11) t169) ∧ Aside0 (Kd.R k33 33 wc w.heap.size (fun k_ => k_ ≠ gb181) (.slice (some ad180) t172.length co13) t172) ∧ Aside0 (wc.heap[gb176]? = some (.cells #[(.slice Ao11 t169.length co11), (.slice (some ad180) t172.length co13)] 26 (0, 0))) ∧ Aside0 (wc.heap[gb181]? = some (.cells #[.int .i64 ((rd_T33 t172 x7_1).f0), .int .i64 ((rd_T33 t172 x7_1).f1), .int .i64 ((rd_T33 t172 x7_1).f2), .string ((rd_T33 t172 x7_1).f3)] 33 (0, 0))) ∧ Aside0 (Below w.heap.size w wc))
                      case first =>
                       as_aux_lemma =>
                        have H := HC35.out
                        clear HC35
                        by_cases c36 : x7_1 = 0
                        · rw [if_pos c36] at H
                          have c36b0 : (x7_1 == 0) = true := beq_iff_eq.mpr c36
                          have c36b1 : (x7_1 != 0) = false := bne_eq_false_iff_eq.mpr c36
                          clear c36
                          (first | rw [c36b0] | (simp only [i64_w, i32_w]; rw [c36b0]) | skip)
                          by_cases c37 : ((rd_T33 t172 x7_1).f0) = 1
                          · rw [if_pos c37] at H
                            have c37b0 : (((rd_T33 t172 x7_1).f0) == 1) = true := beq_iff_eq.mpr c37
                            have c37b1 : (((rd_T33 t172 x7_1).f0) != 1) = false := bne_eq_false_iff_eq.mpr c37
                            clear c37
                            by_cases c38 : x7_1 > 0
                            · rw [if_pos c38] at H
                              have c38b0 : decide (0 < x7_1) = true := decide_eq_true c38
                              clear c38
                              by_cases c39 : 0 ≤ ((rd_T33 t172 x7_1).f2)
                              · rw [if_pos c39] at H
                                have c39b0 : decide (0 ≤ ((rd_T33 t172 x7_1).f2)) = true := decide_eq_true c39
                                clear c39
                                by_cases c40 : ((rd_T33 t172 x7_1).f2) < (t172.length : Int)
                                · rw [if_pos c40] at H
                                  have c40b0 : decide (((rd_T33 t172 x7_1).f2) < (t172.length : Int)) = true := decide_eq_true c40
                                  clear c40
                                  have H' := Aside0.mk H
                                  clear H
                                  have hnb41 := NB181_176.out
                                  have hnc41 := NB176_181.out
                                  have hcz42_0 : wc.cell? ⟨gb181, 0, none⟩ = some (.int .i64 ((rd_T33 t172 x7_1).f0)) := (blk_cell BK181.out 0).trans rfl
                                  have hcz42_1 : wc.cell? ⟨gb181, 1, none⟩ = some (.int .i64 ((rd_T33 t172 x7_1).f1)) := (blk_cell BK181.out 1).trans rfl
                                  have hcz42_2 : wc.cell? ⟨gb181, 2, none⟩ = some (.int .i64 ((rd_T33 t172 x7_1).f2)) := (blk_cell BK181.out 2).trans rfl
                                  have hcz42_3 : wc.cell? ⟨gb181, 3, none⟩ = some (.string ((rd_T33 t172 x7_1).f3)) := (blk_cell BK181.out 3).trans rfl
                                  have hfz42_0 := blk_frozen BK181.out 0
                                  have hfz42_1 := blk_frozen BK181.out 1
                                  have hfz42_2 := blk_frozen BK181.out 2
                                  have hfz42_3 := blk_frozen BK181.out 3
                                  have hcz43_0 : wc.cell? ⟨gb176, 0, none⟩ = some (.slice Ao11 t169.length co11) := (blk_cell BK176.out 0).trans rfl
                                  have hcz43_1 : wc.cell? ⟨gb176, 1, none⟩ = some (.slice (some ad180) t172.length co13) := (blk_cell BK176.out 1).trans rfl
                                  have hfz43_0 := blk_frozen BK176.out 0
                                  have hfz43_1 := blk_frozen BK176.out 1
                                  have p182 : 0 ≤ (((rd_T33 t172 x7_1).f2) : Int) := of_decide_eq_true (by first | (with_reducible assumption) | assumption)
                                  have q182 : ((rd_T33 t172 x7_1).f2) < (t172.length : Int) := of_decide_eq_true (by first | (with_reducible assumption) | assumption)
                                  obtain ⟨ad182, e182, hx182_0, hx182_1, hx182_2, hx182_3⟩ := at_T33 (Kd.R_reads' HO_177001.out).2.2 ((rd_T33 t172 x7_1).f2) p182 q182
                                  obtain rfl : ad180 = ad182 := (by injection e182)
                                  replace p182 := eq_true p182
                                  replace q182 := eq_true q182
                                  go_wp2
                                  repeat (go_quiet (fail); try go_wp2)
                                  go_meet
                                  case rel => exact ⟨_, ((((rd_T33 t172 ((rd_T33 t172 x7_1).f2)).f0) != 1)), (by first | rfl | (simp; done) | (simp [*]; done)), H', ⟨by have := HK1.out; have := HJ17.out; first | omega | exact Nat.le_refl _⟩, ⟨by (with_reducible repeat (first | apply Kd.R_alloc | apply Kd.R_drewN | apply Kd.R_drew)); exact HO_6.out⟩, ⟨by (with_reducible repeat (first | apply Kd.R_alloc | apply Kd.R_drewN | apply Kd.R_drew)); exact HO_177000.out⟩, ⟨by (with_reducible repeat (first | apply Kd.R_alloc | apply Kd.R_drewN | apply Kd.R_drew)); exact HO_177001.out⟩, ⟨by (with_reducible repeat (first | refine blk_drewN ?_ _ | refine blk_drew ?_ | refine blk_alloc ?_ _)); exact BK176.out⟩, ⟨by (with_reducible repeat (first | refine blk_drewN ?_ _ | refine blk_drew ?_ | refine blk_alloc ?_ _)); exact BK181.out⟩, ⟨by repeat (first | (with_reducible first | exact HB.out | apply below_alloc | apply pw_below_drewN | apply below_drew1 | refine below_set ?_ GE176.out | refine below_set ?_ GE181.out) | exact HB.out)⟩⟩
                                · rw [if_neg c40] at H
                                  exact absurd H (by simp)
                              · rw [if_neg c39] at H
                                exact absurd H (by simp)
                            · rw [if_neg c38] at H
                              have c38b0 : decide (0 < x7_1) = false := decide_eq_false c38
                              clear c38
                              have H' := Aside0.mk H
                              clear H
                              have hnb44 := NB181_176.out
                              have hnc44 := NB176_181.out
                              have hcz45_0 : wc.cell? ⟨gb181, 0, none⟩ = some (.int .i64 ((rd_T33 t172 x7_1).f0)) := (blk_cell BK181.out 0).trans rfl
                              have hcz45_1 : wc.cell? ⟨gb181, 1, none⟩ = some (.int .i64 ((rd_T33 t172 x7_1).f1)) := (blk_cell BK181.out 1).trans rfl
                              have hcz45_2 : wc.cell? ⟨gb181, 2, none⟩ = some (.int .i64 ((rd_T33 t172 x7_1).f2)) := (blk_cell BK181.out 2).trans rfl
                              have hcz45_3 : wc.cell? ⟨gb181, 3, none⟩ = some (.string ((rd_T33 t172 x7_1).f3)) := (blk_cell BK181.out 3).trans rfl
                              have hfz45_0 := blk_frozen BK181.out 0
                              have hfz45_1 := blk_frozen BK181.out 1
                              have hfz45_2 := blk_frozen BK181.out 2
                              have hfz45_3 := blk_frozen BK181.out 3
                              go_wp2
                              repeat (go_quiet (fail); try go_wp2)
                              go_meet
                              case rel => exact ⟨_, (false), (by first | rfl | (simp; done) | (simp [*]; done)), H', ⟨by have := HK1.out; have := HJ17.out; first | omega | exact Nat.le_refl _⟩, ⟨by (with_reducible repeat (first | apply Kd.R_alloc | apply Kd.R_drewN | apply Kd.R_drew)); exact HO_6.out⟩, ⟨by (with_reducible repeat (first | apply Kd.R_alloc | apply Kd.R_drewN | apply Kd.R_drew)); exact HO_177000.out⟩, ⟨by (with_reducible repeat (first | apply Kd.R_alloc | apply Kd.R_drewN | apply Kd.R_drew)); exact HO_177001.out⟩, ⟨by (with_reducible repeat (first | refine blk_drewN ?_ _ | refine blk_drew ?_ | refine blk_alloc ?_ _)); exact BK176.out⟩, ⟨by (with_reducible repeat (first | refine blk_drewN ?_ _ | refine blk_drew ?_ | refine blk_alloc ?_ _)); exact BK181.out⟩, ⟨by repeat (first | (with_reducible first | exact HB.out | apply below_alloc | apply pw_below_drewN | apply below_drew1 | refine below_set ?_ GE176.out | refine below_set ?_ GE181.out) | exact HB.out)⟩⟩
                          · rw [if_neg c37] at H
                            have c37b0 : (((rd_T33 t172 x7_1).f0) == 1) = false := beq_eq_false_iff_ne.mpr c37
                            have c37b1 : (((rd_T33 t172 x7_1).f0) != 1) = true := bne_iff_ne.mpr c37
                            have H' := Aside0.mk H
                            clear H
                            have hnb46 := NB181_176.out
                            have hnc46 := NB176_181.out
                            have hcz47_0 : wc.cell? ⟨gb181, 0, none⟩ = some (.int .i64 ((rd_T33 t172 x7_1).f0)) := (blk_cell BK181.out 0).trans rfl
                            have hcz47_1 : wc.cell? ⟨gb181, 1, none⟩ = some (.int .i64 ((rd_T33 t172 x7_1).f1)) := (blk_cell BK181.out 1).trans rfl
                            have hcz47_2 : wc.cell? ⟨gb181, 2, none⟩ = some (.int .i64 ((rd_T33 t172 x7_1).f2)) := (blk_cell BK181.out 2).trans rfl
                            have hcz47_3 : wc.cell? ⟨gb181, 3, none⟩ = some (.string ((rd_T33 t172 x7_1).f3)) := (blk_cell BK181.out 3).trans rfl
                            have hfz47_0 := blk_frozen BK181.out 0
                            have hfz47_1 := blk_frozen BK181.out 1
                            have hfz47_2 := blk_frozen BK181.out 2
                            have hfz47_3 := blk_frozen BK181.out 3
                            go_wp2
                            repeat (go_quiet (fail); try go_wp2)
                            go_meet
                            case rel => exact ⟨_, (true), (by first | rfl | (simp; done) | (simp [*]; done)), H', ⟨by have := HK1.out; have := HJ17.out; first | omega | exact Nat.le_refl _⟩, ⟨by (with_reducible repeat (first | apply Kd.R_alloc | apply Kd.R_drewN | apply Kd.R_drew)); exact HO_6.out⟩, ⟨by (with_reducible repeat (first | apply Kd.R_alloc | apply Kd.R_drewN | apply Kd.R_drew)); exact HO_177000.out⟩, ⟨by (with_reducible repeat (first | apply Kd.R_alloc | apply Kd.R_drewN | apply Kd.R_drew)); exact HO_177001.out⟩, ⟨by (with_reducible repeat (first | refine blk_drewN ?_ _ | refine blk_drew ?_ | refine blk_alloc ?_ _)); exact BK176.out⟩, ⟨by (with_reducible repeat (first | refine blk_drewN ?_ _ | refine blk_drew ?_ | refine blk_alloc ?_ _)); exact BK181.out⟩, ⟨by repeat (first | (with_reducible first | exact HB.out | apply below_alloc | apply pw_below_drewN | apply below_drew1 | refine below_set ?_ GE176.out | refine below_set ?_ GE181.out) | exact HB.out)⟩⟩
                        · rw [if_neg c36] at H
                          have c36b0 : (x7_1 == 0) = false := beq_eq_false_iff_ne.mpr c36
                          have c36b1 : (x7_1 != 0) = true := bne_iff_ne.mpr c36
                          (first | rw [c36b0] | (simp only [i64_w, i32_w]; rw [c36b0]) | skip)
                          by_cases c48 : x7_1 > 0
                          · rw [if_pos c48] at H
                            have c48b0 : decide (0 < x7_1) = true := decide_eq_true c48
                            clear c48
                            by_cases c49 : 0 ≤ ((rd_T33 t172 x7_1).f2)
                            · rw [if_pos c49] at H
                              have c49b0 : decide (0 ≤ ((rd_T33 t172 x7_1).f2)) = true := decide_eq_true c49
                              clear c49
                              by_cases c50 : ((rd_T33 t172 x7_1).f2) < (t172.length : Int)
                              · rw [if_pos c50] at H
                                have c50b0 : decide (((rd_T33 t172 x7_1).f2) < (t172.length : Int)) = true := decide_eq_true c50
                                clear c50
                                have H' := Aside0.mk H
                                clear H
                                have hnb51 := NB176_181.out
                                have hnc51 := NB181_176.out
                                have hcz52_0 : wc.cell? ⟨gb176, 0, none⟩ = some (.slice Ao11 t169.length co11) := (blk_cell BK176.out 0).trans rfl
                                have hcz52_1 : wc.cell? ⟨gb176, 1, none⟩ = some (.slice (some ad180) t172.length co13) := (blk_cell BK176.out 1).trans rfl
                                have hfz52_0 := blk_frozen BK176.out 0
                                have hfz52_1 := blk_frozen BK176.out 1
                                have hcz53_0 : wc.cell? ⟨gb181, 0, none⟩ = some (.int .i64 ((rd_T33 t172 x7_1).f0)) := (blk_cell BK181.out 0).trans rfl
                                have hcz53_1 : wc.cell? ⟨gb181, 1, none⟩ = some (.int .i64 ((rd_T33 t172 x7_1).f1)) := (blk_cell BK181.out 1).trans rfl
                                have hcz53_2 : wc.cell? ⟨gb181, 2, none⟩ = some (.int .i64 ((rd_T33 t172 x7_1).f2)) := (blk_cell BK181.out 2).trans rfl
                                have hcz53_3 : wc.cell? ⟨gb181, 3, none⟩ = some (.string ((rd_T33 t172 x7_1).f3)) := (blk_cell BK181.out 3).trans rfl
                                have hfz53_0 := blk_frozen BK181.out 0
                                have hfz53_1 := blk_frozen BK181.out 1
                                have hfz53_2 := blk_frozen BK181.out 2
                                have hfz53_3 := blk_frozen BK181.out 3
                                have p183 : 0 ≤ (((rd_T33 t172 x7_1).f2) : Int) := of_decide_eq_true (by first | (with_reducible assumption) | assumption)
                                have q183 : ((rd_T33 t172 x7_1).f2) < (t172.length : Int) := of_decide_eq_true (by first | (with_reducible assumption) | assumption)
                                obtain ⟨ad183, e183, hx183_0, hx183_1, hx183_2, hx183_3⟩ := at_T33 (Kd.R_reads' HO_177001.out).2.2 ((rd_T33 t172 x7_1).f2) p183 q183
                                obtain rfl : ad180 = ad183 := (by injection e183)
                                replace p183 := eq_true p183
                                replace q183 := eq_true q183
                                go_wp2
                                repeat (go_quiet (fail); try go_wp2)
                                go_meet
                                case rel => exact ⟨_, ((((rd_T33 t172 ((rd_T33 t172 x7_1).f2)).f0) != 1)), (by first | rfl | (simp; done) | (simp [*]; done)), H', ⟨by have := HK1.out; have := HJ17.out; first | omega | exact Nat.le_refl _⟩, ⟨by (with_reducible repeat (first | apply Kd.R_alloc | apply Kd.R_drewN | apply Kd.R_drew)); exact HO_6.out⟩, ⟨by (with_reducible repeat (first | apply Kd.R_alloc | apply Kd.R_drewN | apply Kd.R_drew)); exact HO_177000.out⟩, ⟨by (with_reducible repeat (first | apply Kd.R_alloc | apply Kd.R_drewN | apply Kd.R_drew)); exact HO_177001.out⟩, ⟨by (with_reducible repeat (first | refine blk_drewN ?_ _ | refine blk_drew ?_ | refine blk_alloc ?_ _)); exact BK176.out⟩, ⟨by (with_reducible repeat (first | refine blk_drewN ?_ _ | refine blk_drew ?_ | refine blk_alloc ?_ _)); exact BK181.out⟩, ⟨by repeat (first | (with_reducible first | exact HB.out | apply below_alloc | apply pw_below_drewN | apply below_drew1 | refine below_set ?_ GE176.out | refine below_set ?_ GE181.out) | exact HB.out)⟩⟩
                              · rw [if_neg c50] at H
                                exact absurd H (by simp)
                            · rw [if_neg c49] at H
                              exact absurd H (by simp)
                          · rw [if_neg c48] at H
                            have c48b0 : decide (0 < x7_1) = false := decide_eq_false c48
                            clear c48
                            have H' := Aside0.mk H
                            clear H
                            go_wp2
                            repeat (go_quiet (fail); try go_wp2)
                            go_meet
                            case rel => exact ⟨_, (false), (by first | rfl | (simp; done) | (simp [*]; done)), H', ⟨by have := HK1.out; have := HJ17.out; first | omega | exact Nat.le_refl _⟩, ⟨by (with_reducible repeat (first | apply Kd.R_alloc | apply Kd.R_drewN | apply Kd.R_drew)); exact HO_6.out⟩, ⟨by (with_reducible repeat (first | apply Kd.R_alloc | apply Kd.R_drewN | apply Kd.R_drew)); exact HO_177000.out⟩, ⟨by (with_reducible repeat (first | apply Kd.R_alloc | apply Kd.R_drewN | apply Kd.R_drew)); exact HO_177001.out⟩, ⟨by (with_reducible repeat (first | refine blk_drewN ?_ _ | refine blk_drew ?_ | refine blk_alloc ?_ _)); exact BK176.out⟩, ⟨by (with_reducible repeat (first | refine blk_drewN ?_ _ | refine blk_drew ?_ | refine blk_alloc ?_ _)); exact BK181.out⟩, ⟨by repeat (first | (with_reducible first | exact HB.out | apply below_alloc | apply pw_below_drewN | apply below_drew1 | refine below_set ?_ GE176.out | refine below_set ?_ GE181.out) | exact HB.out)⟩⟩
                      case rest =>
                       as_aux_lemma =>
                        clear HC35
                        try clear c1
                        try clear p1
                        try clear q1
                        try clear hx1
                        try clear c2
                        try clear p2
                        try clear c3
                        try clear c4
                        try clear c5
                        try clear c5b0
                        try clear c5b1
                        try clear c6
                        try clear c6b0
                        try clear c6b1
                        try clear p6
                        try clear c7
                        try clear c7b0
                        try clear c7b1
                        try clear c16
                        try clear c16b0
                        try clear c17
                        try clear c17b0
                        try clear p18
                        try clear q18
                        try clear hx18
                        try clear c21
                        try clear c23
                        try clear c23b0
                        try clear c23b1
                        try clear c23b2
                        try clear c24
                        try clear c26
                        try clear c26b0
                        try clear c27
                        try clear c29
                        try clear c29b0
                        try clear c30
                        try clear c32
                        try clear c34
                        try clear c36
                        try clear c36b0
                        try clear c36b1
                        try clear c37
                        try clear c37b0
                        try clear c37b1
                        try clear c38
                        try clear c38b0
                        try clear c39
                        try clear c39b0
                        try clear c40
                        try clear c40b0
                        try clear c41
                        try clear c44
                        try clear c46
                        try clear c48
                        try clear c48b0
                        try clear c49
                        try clear c49b0
                        try clear c50
                        try clear c50b0
                        try clear c51
                        try clear hcz12_0
                        try clear hcz12_1
                        try clear hcz19_0
                        try clear hcz19_1
                        try clear hcz22_0
                        try clear hcz22_1
                        try clear hcz22_2
                        try clear hcz22_3
                        try clear hcz25_0
                        try clear hcz25_1
                        try clear hcz25_2
                        try clear hcz25_3
                        try clear hcz28_0
                        try clear hcz28_1
                        try clear hcz28_2
                        try clear hcz28_3
                        try clear hcz31_0
                        try clear hcz31_1
                        try clear hcz31_2
                        try clear hcz31_3
                        try clear hcz33_0
                        try clear hcz33_1
                        try clear hcz33_2
                        try clear hcz33_3
                        try clear hcz42_0
                        try clear hcz42_1
                        try clear hcz42_2
                        try clear hcz42_3
                        try clear hcz43_0
                        try clear hcz43_1
                        try clear hcz45_0
                        try clear hcz45_1
                        try clear hcz45_2
                        try clear hcz45_3
                        try clear hcz47_0
                        try clear hcz47_1
                        try clear hcz47_2
                        try clear hcz47_3
                        try clear hcz52_0
                        try clear hcz52_1
                        try clear hcz53_0
                        try clear hcz53_1
                        try clear hcz53_2
                        try clear hcz53_3
                        try clear hfz12_0
                        try clear hfz12_1
                        try clear hfz19_0
                        try clear hfz19_1
                        try clear hfz22_0
                        try clear hfz22_1
                        try clear hfz22_2
                        try clear hfz22_3
                        try clear hfz25_0
                        try clear hfz25_1
                        try clear hfz25_2
                        try clear hfz25_3
                        try clear hfz28_0
                        try clear hfz28_1
                        try clear hfz28_2
                        try clear hfz28_3
                        try clear hfz31_0
                        try clear hfz31_1
                        try clear hfz31_2
                        try clear hfz31_3
                        try clear hfz33_0
                        try clear hfz33_1
                        try clear hfz33_2
                        try clear hfz33_3
                        try clear hfz42_0
                        try clear hfz42_1
                        try clear hfz42_2
                        try clear hfz42_3
                        try clear hfz43_0
                        try clear hfz43_1
                        try clear hfz45_0
                        try clear hfz45_1
                        try clear hfz45_2
                        try clear hfz45_3
                        try clear hfz47_0
                        try clear hfz47_1
                        try clear hfz47_2
                        try clear hfz47_3
                        try clear hfz52_0
                        try clear hfz52_1
                        try clear hfz53_0
                        try clear hfz53_1
                        try clear hfz53_2
                        try clear hfz53_3
                        try clear hx180_0
                        try clear hx180_1
                        try clear hx180_2
                        try clear hx180_3
                        try clear hx182_0
                        try clear hx182_1
                        try clear hx182_2
                        try clear hx182_3
                        try clear hx183_0
                        try clear hx183_1
                        try clear hx183_2
                        try clear hx183_3
                        try clear p1
                        try clear p18
                        try clear p180
                        try clear p182
                        try clear p183
                        try clear p2
                        try clear p6
                        try clear q1
                        try clear q18
                        try clear q180
                        try clear q182
                        try clear q183
                        obtain ⟨kq, x91_34, rfl, HA, HJ34, HO_6, HO_177000, HO_177001, BK176, BK181, HB⟩ := hcut
                        cases kq with
                        | zero => exact absurd HA.out (by simp [topiarylaw13_ParserStands.j2])
                        | succ kj34 =>
                          have H := HA.out
                          clear HA
                          simp only [topiarylaw13_ParserStands.j2] at H
                          by_cases c54 : x91_34 = true
                          · subst c54
                            have H1 : (some false) = some r := by rw [if_pos rfl] at H; exact H
                            clear H
                            have H := H1
                            clear H1
                            obtain rfl := Option.some.inj H
                            go_wp2
                            repeat (go_quiet (fail); try go_wp2)
                            go_ret
                            exact ⟨by first | rfl | (simp [errW_none, errW_some] <;> rfl) | (simp [*, errW_none, errW_some] <;> rfl), by repeat (first | (with_reducible first | exact HB.out | apply below_alloc | apply pw_below_drewN | apply below_drew1 | refine below_set ?_ GE176.out | refine below_set ?_ GE181.out) | exact HB.out)⟩
                          · replace c54 := Bool.eq_false_iff.mpr c54
                            subst c54
                            have H1 : (if ((rd_T33 t172 x7_1).f0) = 3 then (if ((rd_T33 t172 x7_1).f1) = (-1) then (if ((rd_T33 t172 x7_1).f3).toList = ([] : List UInt8) then (some false) else (topiarylaw13_ParserStands.j3 kj34 t167 x6_1 x7_1 t169 t172 ((rd_T33 t172 x7_1).f0) ((rd_T33 t172 x7_1).f1) ((rd_T33 t172 x7_1).f2) ((rd_T33 t172 x7_1).f3))) else (some false)) else (if ((rd_T33 t172 x7_1).f1) < 0 then (some false) else (if ((rd_T33 t172 x7_1).f1) ≥ (t169.length : Int) then (some false) else (if ((rd_T33 t172 x7_1).f0) = 1 then (if ((rd_T33 t172 x7_1).f3).toList = ([] : List UInt8) then (if 0 ≤ ((rd_T33 t172 x7_1).f1) then (if ((rd_T33 t172 x7_1).f1) < (x6_1.length : Int) then (topiarylaw13_ParserStands.j3 kj34 t167 (x6_1.set (((rd_T33 t172 x7_1).f1) : Int).toNat true) x7_1 t169 t172 ((rd_T33 t172 x7_1).f0) ((rd_T33 t172 x7_1).f1) ((rd_T33 t172 x7_1).f2) ((rd_T33 t172 x7_1).f3)) else (none)) else (none)) else (some false)) else (if 0 ≤ ((rd_T33 t172 x7_1).f1) then (if ((rd_T33 t172 x7_1).f1) < (x6_1.length : Int) then (topiarylaw13_ParserStands.j3 kj34 t167 (x6_1.set (((rd_T33 t172 x7_1).f1) : Int).toNat true) x7_1 t169 t172 ((rd_T33 t172 x7_1).f0) ((rd_T33 t172 x7_1).f1) ((rd_T33 t172 x7_1).f2) ((rd_T33 t172 x7_1).f3)) else (none)) else (none)))))) = some r := by rw [if_neg (show ¬ (false = true) by decide)] at H; exact H
                            clear H
                            have H := H1
                            clear H1
                            have HC55 := Aside0.mk H
                            clear H
                            have hnb56 := NB181_176.out
                            have hnc56 := NB176_181.out
                            have hcz57_0 : wc.cell? ⟨gb181, 0, none⟩ = some (.int .i64 ((rd_T33 t172 x7_1).f0)) := (blk_cell BK181.out 0).trans rfl
                            have hcz57_1 : wc.cell? ⟨gb181, 1, none⟩ = some (.int .i64 ((rd_T33 t172 x7_1).f1)) := (blk_cell BK181.out 1).trans rfl
                            have hcz57_2 : wc.cell? ⟨gb181, 2, none⟩ = some (.int .i64 ((rd_T33 t172 x7_1).f2)) := (blk_cell BK181.out 2).trans rfl
                            have hcz57_3 : wc.cell? ⟨gb181, 3, none⟩ = some (.string ((rd_T33 t172 x7_1).f3)) := (blk_cell BK181.out 3).trans rfl
                            have hfz57_0 := blk_frozen BK181.out 0
                            have hfz57_1 := blk_frozen BK181.out 1
                            have hfz57_2 := blk_frozen BK181.out 2
                            have hfz57_3 := blk_frozen BK181.out 3
                            go_upto_if 94 with (fail)
                            repeat (go_quiet (fail); go_upto_if 94 with (fail))
                            go_cut [] (fun wc => ∃ (kq : Nat) (x6_54 : List Bool), Aside0 (topiarylaw13_ParserStands.j3 kq t167 x6_54 x7_1 t169 t172 ((rd_T33 t172 x7_1).f0) ((rd_T33 t172 x7_1).f1) ((rd_T33 t172 x7_1).f2) ((rd_T33 t172 x7_1).f3) = some r) ∧ Aside0 (kq ≤ kj34) ∧ Aside0 (Kd.R Kd.bool 4 wc w.heap.size (fun _ => True) v178 x6_54) ∧ Aside0 (Kd.R Kd.string 9 wc w.heap.size (fun _ => True) (.slice Ao11 t169.length co11) t169) ∧ Aside0 (Kd.R k33 33 wc w.heap.size (fun k_ => k_ ≠ gb181) (.slice (some ad180) t172.length co13) t172) ∧ Aside0 (wc.heap[gb176]? = some (.cells #[(.slice Ao11 t169.length co11), (.slice (some ad180) t172.length co13)] 26 (0, 0))) ∧ Aside0 (wc.heap[gb181]? = some (.cells #[.int .i64 ((rd_T33 t172 x7_1).f0), .int .i64 ((rd_T33 t172 x7_1).f1), .int .i64 ((rd_T33 t172 x7_1).f2), .string ((rd_T33 t172 x7_1).f3)] 33 (0, 0))) ∧ Aside0 (Below w.heap.size w wc))
                            case first =>
                             as_aux_lemma =>
                              have H := HC55.out
                              clear HC55
                              by_cases c58 : ((rd_T33 t172 x7_1).f0) = 3
                              · rw [if_pos c58] at H
                                have c58b0 : (((rd_T33 t172 x7_1).f0) == 3) = true := beq_iff_eq.mpr c58
                                have c58b1 : (((rd_T33 t172 x7_1).f0) != 3) = false := bne_eq_false_iff_eq.mpr c58
                                clear c58
                                (first | rw [c58b0] | (simp only [i64_w, i32_w]; rw [c58b0]) | skip)
                                by_cases c59 : ((rd_T33 t172 x7_1).f1) = (-1)
                                · rw [if_pos c59] at H
                                  have c59b0 : (((rd_T33 t172 x7_1).f1) == (-1)) = true := beq_iff_eq.mpr c59
                                  have c59b1 : (((rd_T33 t172 x7_1).f1) != (-1)) = false := bne_eq_false_iff_eq.mpr c59
                                  clear c59
                                  by_cases c60 : ((rd_T33 t172 x7_1).f3).toList = ([] : List UInt8)
                                  · rw [if_pos c60] at H
                                    have c60b0 : (((rd_T33 t172 x7_1).f3).toList == ([] : List UInt8)) = true := beq_iff_eq.mpr c60
                                    have c60b1 : (((rd_T33 t172 x7_1).f3).toList != ([] : List UInt8)) = false := bne_eq_false_iff_eq.mpr c60
                                    clear c60
                                    obtain rfl := Option.some.inj H
                                    have hnb61 := NB181_176.out
                                    have hnc61 := NB176_181.out
                                    have hcz62_0 : wc.cell? ⟨gb181, 0, none⟩ = some (.int .i64 ((rd_T33 t172 x7_1).f0)) := (blk_cell BK181.out 0).trans rfl
                                    have hcz62_1 : wc.cell? ⟨gb181, 1, none⟩ = some (.int .i64 ((rd_T33 t172 x7_1).f1)) := (blk_cell BK181.out 1).trans rfl
                                    have hcz62_2 : wc.cell? ⟨gb181, 2, none⟩ = some (.int .i64 ((rd_T33 t172 x7_1).f2)) := (blk_cell BK181.out 2).trans rfl
                                    have hcz62_3 : wc.cell? ⟨gb181, 3, none⟩ = some (.string ((rd_T33 t172 x7_1).f3)) := (blk_cell BK181.out 3).trans rfl
                                    have hfz62_0 := blk_frozen BK181.out 0
                                    have hfz62_1 := blk_frozen BK181.out 1
                                    have hfz62_2 := blk_frozen BK181.out 2
                                    have hfz62_3 := blk_frozen BK181.out 3
                                    go_wp2
                                    repeat (go_quiet (fail); try go_wp2)
                                    go_ret
                                    exact ⟨by first | rfl | (simp [errW_none, errW_some] <;> rfl) | (simp [*, errW_none, errW_some] <;> rfl), by repeat (first | (with_reducible first | exact HB.out | apply below_alloc | apply pw_below_drewN | apply below_drew1 | refine below_set ?_ GE176.out | refine below_set ?_ GE181.out) | exact HB.out)⟩
                                  · rw [if_neg c60] at H
                                    have c60b0 : (((rd_T33 t172 x7_1).f3).toList == ([] : List UInt8)) = false := beq_eq_false_iff_ne.mpr c60
                                    have c60b1 : (((rd_T33 t172 x7_1).f3).toList != ([] : List UInt8)) = true := bne_iff_ne.mpr c60
                                    have H' := Aside0.mk H
                                    clear H
                                    have hnb63 := NB181_176.out
                                    have hnc63 := NB176_181.out
                                    have hcz64_0 : wc.cell? ⟨gb181, 0, none⟩ = some (.int .i64 ((rd_T33 t172 x7_1).f0)) := (blk_cell BK181.out 0).trans rfl
                                    have hcz64_1 : wc.cell? ⟨gb181, 1, none⟩ = some (.int .i64 ((rd_T33 t172 x7_1).f1)) := (blk_cell BK181.out 1).trans rfl
                                    have hcz64_2 : wc.cell? ⟨gb181, 2, none⟩ = some (.int .i64 ((rd_T33 t172 x7_1).f2)) := (blk_cell BK181.out 2).trans rfl
                                    have hcz64_3 : wc.cell? ⟨gb181, 3, none⟩ = some (.string ((rd_T33 t172 x7_1).f3)) := (blk_cell BK181.out 3).trans rfl
                                    have hfz64_0 := blk_frozen BK181.out 0
                                    have hfz64_1 := blk_frozen BK181.out 1
                                    have hfz64_2 := blk_frozen BK181.out 2
                                    have hfz64_3 := blk_frozen BK181.out 3
                                    go_wp2
                                    repeat (go_quiet (fail); try go_wp2)
                                    go_meet
                                    case rel => exact ⟨_, (x6_1), H', ⟨by have := HK1.out; have := HJ17.out; have := HJ34.out; first | omega | exact Nat.le_refl _⟩, ⟨by (with_reducible repeat (first | apply Kd.R_alloc | apply Kd.R_drewN | apply Kd.R_drew)); exact HO_6.out⟩, ⟨by (with_reducible repeat (first | apply Kd.R_alloc | apply Kd.R_drewN | apply Kd.R_drew)); exact HO_177000.out⟩, ⟨by (with_reducible repeat (first | apply Kd.R_alloc | apply Kd.R_drewN | apply Kd.R_drew)); exact HO_177001.out⟩, ⟨by (with_reducible repeat (first | refine blk_drewN ?_ _ | refine blk_drew ?_ | refine blk_alloc ?_ _)); exact BK176.out⟩, ⟨by (with_reducible repeat (first | refine blk_drewN ?_ _ | refine blk_drew ?_ | refine blk_alloc ?_ _)); exact BK181.out⟩, ⟨by repeat (first | (with_reducible first | exact HB.out | apply below_alloc | apply pw_below_drewN | apply below_drew1 | refine below_set ?_ GE176.out | refine below_set ?_ GE181.out) | exact HB.out)⟩⟩
                                · rw [if_neg c59] at H
                                  have c59b0 : (((rd_T33 t172 x7_1).f1) == (-1)) = false := beq_eq_false_iff_ne.mpr c59
                                  have c59b1 : (((rd_T33 t172 x7_1).f1) != (-1)) = true := bne_iff_ne.mpr c59
                                  obtain rfl := Option.some.inj H
                                  have hnb65 := NB181_176.out
                                  have hnc65 := NB176_181.out
                                  have hcz66_0 : wc.cell? ⟨gb181, 0, none⟩ = some (.int .i64 ((rd_T33 t172 x7_1).f0)) := (blk_cell BK181.out 0).trans rfl
                                  have hcz66_1 : wc.cell? ⟨gb181, 1, none⟩ = some (.int .i64 ((rd_T33 t172 x7_1).f1)) := (blk_cell BK181.out 1).trans rfl
                                  have hcz66_2 : wc.cell? ⟨gb181, 2, none⟩ = some (.int .i64 ((rd_T33 t172 x7_1).f2)) := (blk_cell BK181.out 2).trans rfl
                                  have hcz66_3 : wc.cell? ⟨gb181, 3, none⟩ = some (.string ((rd_T33 t172 x7_1).f3)) := (blk_cell BK181.out 3).trans rfl
                                  have hfz66_0 := blk_frozen BK181.out 0
                                  have hfz66_1 := blk_frozen BK181.out 1
                                  have hfz66_2 := blk_frozen BK181.out 2
                                  have hfz66_3 := blk_frozen BK181.out 3
                                  go_wp2
                                  repeat (go_quiet (fail); try go_wp2)
                                  go_ret
                                  exact ⟨by first | rfl | (simp [errW_none, errW_some] <;> rfl) | (simp [*, errW_none, errW_some] <;> rfl), by repeat (first | (with_reducible first | exact HB.out | apply below_alloc | apply pw_below_drewN | apply below_drew1 | refine below_set ?_ GE176.out | refine below_set ?_ GE181.out) | exact HB.out)⟩
                              · rw [if_neg c58] at H
                                have c58b0 : (((rd_T33 t172 x7_1).f0) == 3) = false := beq_eq_false_iff_ne.mpr c58
                                have c58b1 : (((rd_T33 t172 x7_1).f0) != 3) = true := bne_iff_ne.mpr c58
                                (first | rw [c58b0] | (simp only [i64_w, i32_w]; rw [c58b0]) | skip)
                                by_cases c67 : ((rd_T33 t172 x7_1).f1) < 0
                                · rw [if_pos c67] at H
                                  have c67b0 : decide (((rd_T33 t172 x7_1).f1) < 0) = true := decide_eq_true c67
                                  clear c67
                                  obtain rfl := Option.some.inj H
                                  have hnb68 := NB181_176.out
                                  have hnc68 := NB176_181.out
                                  have hcz69_0 : wc.cell? ⟨gb181, 0, none⟩ = some (.int .i64 ((rd_T33 t172 x7_1).f0)) := (blk_cell BK181.out 0).trans rfl
                                  have hcz69_1 : wc.cell? ⟨gb181, 1, none⟩ = some (.int .i64 ((rd_T33 t172 x7_1).f1)) := (blk_cell BK181.out 1).trans rfl
                                  have hcz69_2 : wc.cell? ⟨gb181, 2, none⟩ = some (.int .i64 ((rd_T33 t172 x7_1).f2)) := (blk_cell BK181.out 2).trans rfl
                                  have hcz69_3 : wc.cell? ⟨gb181, 3, none⟩ = some (.string ((rd_T33 t172 x7_1).f3)) := (blk_cell BK181.out 3).trans rfl
                                  have hfz69_0 := blk_frozen BK181.out 0
                                  have hfz69_1 := blk_frozen BK181.out 1
                                  have hfz69_2 := blk_frozen BK181.out 2
                                  have hfz69_3 := blk_frozen BK181.out 3
                                  go_wp2
                                  repeat (go_quiet (fail); try go_wp2)
                                  go_ret
                                  exact ⟨by first | rfl | (simp [errW_none, errW_some] <;> rfl) | (simp [*, errW_none, errW_some] <;> rfl), by repeat (first | (with_reducible first | exact HB.out | apply below_alloc | apply pw_below_drewN | apply below_drew1 | refine below_set ?_ GE176.out | refine below_set ?_ GE181.out) | exact HB.out)⟩
                                · rw [if_neg c67] at H
                                  have c67b0 : decide (((rd_T33 t172 x7_1).f1) < 0) = false := decide_eq_false c67
                                  clear c67
                                  by_cases c70 : ((rd_T33 t172 x7_1).f1) ≥ (t169.length : Int)
                                  · rw [if_pos c70] at H
                                    have c70b0 : decide ((t169.length : Int) ≤ ((rd_T33 t172 x7_1).f1)) = true := decide_eq_true c70
                                    clear c70
                                    obtain rfl := Option.some.inj H
                                    have hnb71 := NB181_176.out
                                    have hnc71 := NB176_181.out
                                    have hcz72_0 : wc.cell? ⟨gb181, 0, none⟩ = some (.int .i64 ((rd_T33 t172 x7_1).f0)) := (blk_cell BK181.out 0).trans rfl
                                    have hcz72_1 : wc.cell? ⟨gb181, 1, none⟩ = some (.int .i64 ((rd_T33 t172 x7_1).f1)) := (blk_cell BK181.out 1).trans rfl
                                    have hcz72_2 : wc.cell? ⟨gb181, 2, none⟩ = some (.int .i64 ((rd_T33 t172 x7_1).f2)) := (blk_cell BK181.out 2).trans rfl
                                    have hcz72_3 : wc.cell? ⟨gb181, 3, none⟩ = some (.string ((rd_T33 t172 x7_1).f3)) := (blk_cell BK181.out 3).trans rfl
                                    have hfz72_0 := blk_frozen BK181.out 0
                                    have hfz72_1 := blk_frozen BK181.out 1
                                    have hfz72_2 := blk_frozen BK181.out 2
                                    have hfz72_3 := blk_frozen BK181.out 3
                                    have hcz73_0 : wc.cell? ⟨gb176, 0, none⟩ = some (.slice Ao11 t169.length co11) := (blk_cell BK176.out 0).trans rfl
                                    have hcz73_1 : wc.cell? ⟨gb176, 1, none⟩ = some (.slice (some ad180) t172.length co13) := (blk_cell BK176.out 1).trans rfl
                                    have hfz73_0 := blk_frozen BK176.out 0
                                    have hfz73_1 := blk_frozen BK176.out 1
                                    go_wp2
                                    repeat (go_quiet (fail); try go_wp2)
                                    go_ret
                                    exact ⟨by first | rfl | (simp [errW_none, errW_some] <;> rfl) | (simp [*, errW_none, errW_some] <;> rfl), by repeat (first | (with_reducible first | exact HB.out | apply below_alloc | apply pw_below_drewN | apply below_drew1 | refine below_set ?_ GE176.out | refine below_set ?_ GE181.out) | exact HB.out)⟩
                                  · rw [if_neg c70] at H
                                    have c70b0 : decide ((t169.length : Int) ≤ ((rd_T33 t172 x7_1).f1)) = false := decide_eq_false c70
                                    clear c70
                                    by_cases c74 : ((rd_T33 t172 x7_1).f0) = 1
                                    · rw [if_pos c74] at H
                                      have c74b0 : (((rd_T33 t172 x7_1).f0) == 1) = true := beq_iff_eq.mpr c74
                                      have c74b1 : (((rd_T33 t172 x7_1).f0) != 1) = false := bne_eq_false_iff_eq.mpr c74
                                      clear c74
                                      by_cases c75 : ((rd_T33 t172 x7_1).f3).toList = ([] : List UInt8)
                                      · rw [if_pos c75] at H
                                        have c75b0 : (((rd_T33 t172 x7_1).f3).toList == ([] : List UInt8)) = true := beq_iff_eq.mpr c75
                                        have c75b1 : (((rd_T33 t172 x7_1).f3).toList != ([] : List UInt8)) = false := bne_eq_false_iff_eq.mpr c75
                                        clear c75
                                        by_cases c76 : 0 ≤ ((rd_T33 t172 x7_1).f1)
                                        · rw [if_pos c76] at H
                                          have c76b0 : decide (0 ≤ ((rd_T33 t172 x7_1).f1)) = true := decide_eq_true c76
                                          clear c76
                                          by_cases c77 : ((rd_T33 t172 x7_1).f1) < (x6_1.length : Int)
                                          · rw [if_pos c77] at H
                                            have c77b0 : decide (((rd_T33 t172 x7_1).f1) < (x6_1.length : Int)) = true := decide_eq_true c77
                                            clear c77
                                            obtain ⟨y184, hy184⟩ : ∃ y_ : List Bool, y_ = (x6_1.set (((rd_T33 t172 x7_1).f1) : Int).toNat true) := ⟨_, rfl⟩
                                            replace H : (topiarylaw13_ParserStands.j3 kj34 t167 y184 x7_1 t169 t172 ((rd_T33 t172 x7_1).f0) ((rd_T33 t172 x7_1).f1) ((rd_T33 t172 x7_1).f2) ((rd_T33 t172 x7_1).f3)) = some r := by first | (rw [hy184]; with_reducible exact H) | (have H2_ := (Option.bind_some _ _).symm.trans H; rw [hy184]; with_reducible exact H2_) | (have H2_ := (Option.bind_some _ _).symm.trans H; with_reducible exact H2_) | with_reducible exact H | (rw [hy184]; exact H) | exact H
                                            have Ny184 := Aside0.mk hy184
                                            clear hy184
                                            have H' := Aside0.mk H
                                            clear H
                                            have hnb79 := NB181_176.out
                                            have hnc79 := NB176_181.out
                                            have hcz80_0 : wc.cell? ⟨gb181, 0, none⟩ = some (.int .i64 ((rd_T33 t172 x7_1).f0)) := (blk_cell BK181.out 0).trans rfl
                                            have hcz80_1 : wc.cell? ⟨gb181, 1, none⟩ = some (.int .i64 ((rd_T33 t172 x7_1).f1)) := (blk_cell BK181.out 1).trans rfl
                                            have hcz80_2 : wc.cell? ⟨gb181, 2, none⟩ = some (.int .i64 ((rd_T33 t172 x7_1).f2)) := (blk_cell BK181.out 2).trans rfl
                                            have hcz80_3 : wc.cell? ⟨gb181, 3, none⟩ = some (.string ((rd_T33 t172 x7_1).f3)) := (blk_cell BK181.out 3).trans rfl
                                            have hfz80_0 := blk_frozen BK181.out 0
                                            have hfz80_1 := blk_frozen BK181.out 1
                                            have hfz80_2 := blk_frozen BK181.out 2
                                            have hfz80_3 := blk_frozen BK181.out 3
                                            have hcz81_0 : wc.cell? ⟨gb176, 0, none⟩ = some (.slice Ao11 t169.length co11) := (blk_cell BK176.out 0).trans rfl
                                            have hcz81_1 : wc.cell? ⟨gb176, 1, none⟩ = some (.slice (some ad180) t172.length co13) := (blk_cell BK176.out 1).trans rfl
                                            have hfz81_0 := blk_frozen BK176.out 0
                                            have hfz81_1 := blk_frozen BK176.out 1
                                            have p78 : 0 ≤ (((rd_T33 t172 x7_1).f1) : Int) := of_decide_eq_true (by first | (with_reducible assumption) | assumption)
                                            have q78 : (((rd_T33 t172 x7_1).f1) : Int) < ((x6_1.length : Int) : Int) := of_decide_eq_true (by first | (with_reducible assumption) | assumption)
                                            obtain ⟨go78, co78, eo78, gb78, gl78, cl78, HG78⟩ := Kd.R_form HO_6.out (by omega)
                                            (first | cases eo78 | (injection eo78 with ea_ en_ ec_; (first | subst ea_ | (injection ea_ with ea_; subst ea_)); subst ec_; clear en_))
                                            have GB78 := Aside0.mk gb78
                                            have GG78 := Aside0.mk HG78
                                            clear gb78 gl78 HG78
                                            obtain ⟨hx78_0, hf78_0⟩ := Kd.R_celln false HO_6.out (((rd_T33 t172 x7_1).f1) : Int) p78 q78
                                            replace p78 := eq_true p78
                                            replace q78 := eq_true q78
                                            have HP82 := Kd.R_putg HO_6.out (((rd_T33 t172 x7_1).f1) : Int) true
                                            go_wp2_with (first | ((with_reducible refine gate_store (t := 4) (p := 127) rfl ?_); (try (rw [drewN_self wc]; generalize hq_ : World.drewN wc _ = wc; have n0_ := Aside0.mk (Kd.R_at hq_ HO_6.out); have n1_ := Aside0.mk (Kd.R_at hq_ HO_177000.out); have n2_ := Aside0.mk (Kd.R_at hq_ HO_177001.out); have n3_ := Aside0.mk (blk_at hq_ BK176.out); have n4_ := Aside0.mk (blk_at hq_ BK181.out); have n5_ := Aside0.mk (below_at hq_ HB.out); clear hq_ HO_6 HO_177000 HO_177001 BK176 BK181 HB; have HO_6 := n0_; have HO_177000 := n1_; have HO_177001 := n2_; have BK176 := n3_; have BK181 := n4_; have HB := n5_; clear n0_ n1_ n2_ n3_ n4_ n5_; (try (have HP82 := Kd.R_putg HO_6.out (((rd_T33 t172 x7_1).f1) : Int) true)))); refine store_event (t := 4) (p := 127) (v := ?vo_w83) (w1 := (wc.setCell ⟨go78, (((rd_T33 t172 x7_1).f1) : Int).toNat, none⟩ (.bool true))) ?hg ?ho ?hn ?hr ?_; (case ho => rfl); (case hg => rfl); (case hn => rfl); (case hr => first | (go_simp; done) | (go_simp; rfl)); intro w83 hw; have hg : wc.grownBy w83 (some go78) := (by rw [hw]; exact HP82.2); have hp_ : Kd.R Kd.bool 4 w83 w.heap.size (fun _ => True) (.slice (some ⟨go78, 0, none⟩) x6_1.length co78) y184 := (by rw [hw, Ny184.out]; exact HP82.1); clear HP82; have n0_ := Aside0.mk (hp_); have n1_ := Aside0.mk (Kd.R_over' (v := (.slice (some ⟨go78, 0, none⟩) x6_1.length co78)) (by (with_reducible repeat (first | apply Kd.R_alloc | apply Kd.R_drewN | apply Kd.R_drew)); exact HO_177000.out) (Kd.R_typed HO_6.out) (by decide) hg); have n2_ := Aside0.mk (Kd.R_over' (v := (.slice (some ⟨go78, 0, none⟩) x6_1.length co78)) (by (with_reducible repeat (first | apply Kd.R_alloc | apply Kd.R_drewN | apply Kd.R_drew)); exact HO_177001.out) (Kd.R_typed HO_6.out) (by decide) hg); have n3_ := Aside0.mk (blk_grown (g := gb176) (o := .cells #[.slice Ao11 t169.length co11, .slice (some ad180) t172.length co13] 26 (0, 0)) (by (with_reducible repeat (first | refine blk_drewN ?_ _ | refine blk_drew ?_ | refine blk_alloc ?_ _)); exact BK176.out) hg (Kd.R_ne HO_6.out BK176.out (by decide))); have n4_ := Aside0.mk (blk_grown (g := gb181) (o := .cells #[.int .i64 ((rd_T33 t172 x7_1).f0), .int .i64 ((rd_T33 t172 x7_1).f1), .int .i64 ((rd_T33 t172 x7_1).f2), .string ((rd_T33 t172 x7_1).f3)] 33 (0, 0)) (by (with_reducible repeat (first | refine blk_drewN ?_ _ | refine blk_drew ?_ | refine blk_alloc ?_ _)); exact BK181.out) hg (Kd.R_ne HO_6.out BK181.out (by decide))); have n5_ := Aside0.mk ((by rw [hw]; exact below_set (HB.out) GB78.out : Below w.heap.size w w83)); clear HO_6; clear HO_177000; clear HO_177001; clear BK176; clear BK181; clear HB; have HO_6 := n0_; have HO_177000 := n1_; have HO_177001 := n2_; have BK176 := n3_; have BK181 := n4_; have HB := n5_; clear n0_ n1_ n2_ n3_ n4_ n5_; clear hg hw hp_))
                                            repeat (go_quiet (first | ((with_reducible refine gate_store (t := 4) (p := 127) rfl ?_); (try (rw [drewN_self wc]; generalize hq_ : World.drewN wc _ = wc; have n0_ := Aside0.mk (Kd.R_at hq_ HO_6.out); have n1_ := Aside0.mk (Kd.R_at hq_ HO_177000.out); have n2_ := Aside0.mk (Kd.R_at hq_ HO_177001.out); have n3_ := Aside0.mk (blk_at hq_ BK176.out); have n4_ := Aside0.mk (blk_at hq_ BK181.out); have n5_ := Aside0.mk (below_at hq_ HB.out); clear hq_ HO_6 HO_177000 HO_177001 BK176 BK181 HB; have HO_6 := n0_; have HO_177000 := n1_; have HO_177001 := n2_; have BK176 := n3_; have BK181 := n4_; have HB := n5_; clear n0_ n1_ n2_ n3_ n4_ n5_; (try (have HP82 := Kd.R_putg HO_6.out (((rd_T33 t172 x7_1).f1) : Int) true)))); refine store_event (t := 4) (p := 127) (v := ?vo_w83) (w1 := (wc.setCell ⟨go78, (((rd_T33 t172 x7_1).f1) : Int).toNat, none⟩ (.bool true))) ?hg ?ho ?hn ?hr ?_; (case ho => rfl); (case hg => rfl); (case hn => rfl); (case hr => first | (go_simp; done) | (go_simp; rfl)); intro w83 hw; have hg : wc.grownBy w83 (some go78) := (by rw [hw]; exact HP82.2); have hp_ : Kd.R Kd.bool 4 w83 w.heap.size (fun _ => True) (.slice (some ⟨go78, 0, none⟩) x6_1.length co78) y184 := (by rw [hw, Ny184.out]; exact HP82.1); clear HP82; have n0_ := Aside0.mk (hp_); have n1_ := Aside0.mk (Kd.R_over' (v := (.slice (some ⟨go78, 0, none⟩) x6_1.length co78)) (by (with_reducible repeat (first | apply Kd.R_alloc | apply Kd.R_drewN | apply Kd.R_drew)); exact HO_177000.out) (Kd.R_typed HO_6.out) (by decide) hg); have n2_ := Aside0.mk (Kd.R_over' (v := (.slice (some ⟨go78, 0, none⟩) x6_1.length co78)) (by (with_reducible repeat (first | apply Kd.R_alloc | apply Kd.R_drewN | apply Kd.R_drew)); exact HO_177001.out) (Kd.R_typed HO_6.out) (by decide) hg); have n3_ := Aside0.mk (blk_grown (g := gb176) (o := .cells #[.slice Ao11 t169.length co11, .slice (some ad180) t172.length co13] 26 (0, 0)) (by (with_reducible repeat (first | refine blk_drewN ?_ _ | refine blk_drew ?_ | refine blk_alloc ?_ _)); exact BK176.out) hg (Kd.R_ne HO_6.out BK176.out (by decide))); have n4_ := Aside0.mk (blk_grown (g := gb181) (o := .cells #[.int .i64 ((rd_T33 t172 x7_1).f0), .int .i64 ((rd_T33 t172 x7_1).f1), .int .i64 ((rd_T33 t172 x7_1).f2), .string ((rd_T33 t172 x7_1).f3)] 33 (0, 0)) (by (with_reducible repeat (first | refine blk_drewN ?_ _ | refine blk_drew ?_ | refine blk_alloc ?_ _)); exact BK181.out) hg (Kd.R_ne HO_6.out BK181.out (by decide))); have n5_ := Aside0.mk ((by rw [hw]; exact below_set (HB.out) GB78.out : Below w.heap.size w w83)); clear HO_6; clear HO_177000; clear HO_177001; clear BK176; clear BK181; clear HB; have HO_6 := n0_; have HO_177000 := n1_; have HO_177001 := n2_; have BK176 := n3_; have BK181 := n4_; have HB := n5_; clear n0_ n1_ n2_ n3_ n4_ n5_; clear hg hw hp_)); try go_wp2_with (first | ((with_reducible refine gate_store (t := 4) (p := 127) rfl ?_); (try (rw [drewN_self wc]; generalize hq_ : World.drewN wc _ = wc; have n0_ := Aside0.mk (Kd.R_at hq_ HO_6.out); have n1_ := Aside0.mk (Kd.R_at hq_ HO_177000.out); have n2_ := Aside0.mk (Kd.R_at hq_ HO_177001.out); have n3_ := Aside0.mk (blk_at hq_ BK176.out); have n4_ := Aside0.mk (blk_at hq_ BK181.out); have n5_ := Aside0.mk (below_at hq_ HB.out); clear hq_ HO_6 HO_177000 HO_177001 BK176 BK181 HB; have HO_6 := n0_; have HO_177000 := n1_; have HO_177001 := n2_; have BK176 := n3_; have BK181 := n4_; have HB := n5_; clear n0_ n1_ n2_ n3_ n4_ n5_; (try (have HP82 := Kd.R_putg HO_6.out (((rd_T33 t172 x7_1).f1) : Int) true)))); refine store_event (t := 4) (p := 127) (v := ?vo_w83) (w1 := (wc.setCell ⟨go78, (((rd_T33 t172 x7_1).f1) : Int).toNat, none⟩ (.bool true))) ?hg ?ho ?hn ?hr ?_; (case ho => rfl); (case hg => rfl); (case hn => rfl); (case hr => first | (go_simp; done) | (go_simp; rfl)); intro w83 hw; have hg : wc.grownBy w83 (some go78) := (by rw [hw]; exact HP82.2); have hp_ : Kd.R Kd.bool 4 w83 w.heap.size (fun _ => True) (.slice (some ⟨go78, 0, none⟩) x6_1.length co78) y184 := (by rw [hw, Ny184.out]; exact HP82.1); clear HP82; have n0_ := Aside0.mk (hp_); have n1_ := Aside0.mk (Kd.R_over' (v := (.slice (some ⟨go78, 0, none⟩) x6_1.length co78)) (by (with_reducible repeat (first | apply Kd.R_alloc | apply Kd.R_drewN | apply Kd.R_drew)); exact HO_177000.out) (Kd.R_typed HO_6.out) (by decide) hg); have n2_ := Aside0.mk (Kd.R_over' (v := (.slice (some ⟨go78, 0, none⟩) x6_1.length co78)) (by (with_reducible repeat (first | apply Kd.R_alloc | apply Kd.R_drewN | apply Kd.R_drew)); exact HO_177001.out) (Kd.R_typed HO_6.out) (by decide) hg); have n3_ := Aside0.mk (blk_grown (g := gb176) (o := .cells #[.slice Ao11 t169.length co11, .slice (some ad180) t172.length co13] 26 (0, 0)) (by (with_reducible repeat (first | refine blk_drewN ?_ _ | refine blk_drew ?_ | refine blk_alloc ?_ _)); exact BK176.out) hg (Kd.R_ne HO_6.out BK176.out (by decide))); have n4_ := Aside0.mk (blk_grown (g := gb181) (o := .cells #[.int .i64 ((rd_T33 t172 x7_1).f0), .int .i64 ((rd_T33 t172 x7_1).f1), .int .i64 ((rd_T33 t172 x7_1).f2), .string ((rd_T33 t172 x7_1).f3)] 33 (0, 0)) (by (with_reducible repeat (first | refine blk_drewN ?_ _ | refine blk_drew ?_ | refine blk_alloc ?_ _)); exact BK181.out) hg (Kd.R_ne HO_6.out BK181.out (by decide))); have n5_ := Aside0.mk ((by rw [hw]; exact below_set (HB.out) GB78.out : Below w.heap.size w w83)); clear HO_6; clear HO_177000; clear HO_177001; clear BK176; clear BK181; clear HB; have HO_6 := n0_; have HO_177000 := n1_; have HO_177001 := n2_; have BK176 := n3_; have BK181 := n4_; have HB := n5_; clear n0_ n1_ n2_ n3_ n4_ n5_; clear hg hw hp_)))
                                            go_meet
                                            case rel => exact ⟨_, (y184), H', ⟨by have := HK1.out; have := HJ17.out; have := HJ34.out; first | omega | exact Nat.le_refl _⟩, ⟨by (with_reducible repeat (first | apply Kd.R_alloc | apply Kd.R_drewN | apply Kd.R_drew)); exact HO_6.out⟩, ⟨by (with_reducible repeat (first | apply Kd.R_alloc | apply Kd.R_drewN | apply Kd.R_drew)); exact HO_177000.out⟩, ⟨by (with_reducible repeat (first | apply Kd.R_alloc | apply Kd.R_drewN | apply Kd.R_drew)); exact HO_177001.out⟩, ⟨by (with_reducible repeat (first | refine blk_drewN ?_ _ | refine blk_drew ?_ | refine blk_alloc ?_ _)); exact BK176.out⟩, ⟨by (with_reducible repeat (first | refine blk_drewN ?_ _ | refine blk_drew ?_ | refine blk_alloc ?_ _)); exact BK181.out⟩, ⟨by repeat (first | (with_reducible first | exact HB.out | apply below_alloc | apply pw_below_drewN | apply below_drew1 | refine below_set ?_ GE176.out | refine below_set ?_ GE181.out) | exact HB.out)⟩⟩
                                          · rw [if_neg c77] at H
                                            exact absurd H (by simp)
                                        · rw [if_neg c76] at H
                                          exact absurd H (by simp)
                                      · rw [if_neg c75] at H
                                        have c75b0 : (((rd_T33 t172 x7_1).f3).toList == ([] : List UInt8)) = false := beq_eq_false_iff_ne.mpr c75
                                        have c75b1 : (((rd_T33 t172 x7_1).f3).toList != ([] : List UInt8)) = true := bne_iff_ne.mpr c75
                                        obtain rfl := Option.some.inj H
                                        have hnb84 := NB181_176.out
                                        have hnc84 := NB176_181.out
                                        have hcz85_0 : wc.cell? ⟨gb181, 0, none⟩ = some (.int .i64 ((rd_T33 t172 x7_1).f0)) := (blk_cell BK181.out 0).trans rfl
                                        have hcz85_1 : wc.cell? ⟨gb181, 1, none⟩ = some (.int .i64 ((rd_T33 t172 x7_1).f1)) := (blk_cell BK181.out 1).trans rfl
                                        have hcz85_2 : wc.cell? ⟨gb181, 2, none⟩ = some (.int .i64 ((rd_T33 t172 x7_1).f2)) := (blk_cell BK181.out 2).trans rfl
                                        have hcz85_3 : wc.cell? ⟨gb181, 3, none⟩ = some (.string ((rd_T33 t172 x7_1).f3)) := (blk_cell BK181.out 3).trans rfl
                                        have hfz85_0 := blk_frozen BK181.out 0
                                        have hfz85_1 := blk_frozen BK181.out 1
                                        have hfz85_2 := blk_frozen BK181.out 2
                                        have hfz85_3 := blk_frozen BK181.out 3
                                        have hcz86_0 : wc.cell? ⟨gb176, 0, none⟩ = some (.slice Ao11 t169.length co11) := (blk_cell BK176.out 0).trans rfl
                                        have hcz86_1 : wc.cell? ⟨gb176, 1, none⟩ = some (.slice (some ad180) t172.length co13) := (blk_cell BK176.out 1).trans rfl
                                        have hfz86_0 := blk_frozen BK176.out 0
                                        have hfz86_1 := blk_frozen BK176.out 1
                                        go_wp2
                                        repeat (go_quiet (fail); try go_wp2)
                                        go_ret
                                        exact ⟨by first | rfl | (simp [errW_none, errW_some] <;> rfl) | (simp [*, errW_none, errW_some] <;> rfl), by repeat (first | (with_reducible first | exact HB.out | apply below_alloc | apply pw_below_drewN | apply below_drew1 | refine below_set ?_ GE176.out | refine below_set ?_ GE181.out) | exact HB.out)⟩
                                    · rw [if_neg c74] at H
                                      have c74b0 : (((rd_T33 t172 x7_1).f0) == 1) = false := beq_eq_false_iff_ne.mpr c74
                                      have c74b1 : (((rd_T33 t172 x7_1).f0) != 1) = true := bne_iff_ne.mpr c74
                                      by_cases c87 : 0 ≤ ((rd_T33 t172 x7_1).f1)
                                      · rw [if_pos c87] at H
                                        have c87b0 : decide (0 ≤ ((rd_T33 t172 x7_1).f1)) = true := decide_eq_true c87
                                        clear c87
                                        by_cases c88 : ((rd_T33 t172 x7_1).f1) < (x6_1.length : Int)
                                        · rw [if_pos c88] at H
                                          have c88b0 : decide (((rd_T33 t172 x7_1).f1) < (x6_1.length : Int)) = true := decide_eq_true c88
                                          clear c88
                                          obtain ⟨y185, hy185⟩ : ∃ y_ : List Bool, y_ = (x6_1.set (((rd_T33 t172 x7_1).f1) : Int).toNat true) := ⟨_, rfl⟩
                                          replace H : (topiarylaw13_ParserStands.j3 kj34 t167 y185 x7_1 t169 t172 ((rd_T33 t172 x7_1).f0) ((rd_T33 t172 x7_1).f1) ((rd_T33 t172 x7_1).f2) ((rd_T33 t172 x7_1).f3)) = some r := by first | (rw [hy185]; with_reducible exact H) | (have H2_ := (Option.bind_some _ _).symm.trans H; rw [hy185]; with_reducible exact H2_) | (have H2_ := (Option.bind_some _ _).symm.trans H; with_reducible exact H2_) | with_reducible exact H | (rw [hy185]; exact H) | exact H
                                          have Ny185 := Aside0.mk hy185
                                          clear hy185
                                          have H' := Aside0.mk H
                                          clear H
                                          have hnb90 := NB181_176.out
                                          have hnc90 := NB176_181.out
                                          have hcz91_0 : wc.cell? ⟨gb181, 0, none⟩ = some (.int .i64 ((rd_T33 t172 x7_1).f0)) := (blk_cell BK181.out 0).trans rfl
                                          have hcz91_1 : wc.cell? ⟨gb181, 1, none⟩ = some (.int .i64 ((rd_T33 t172 x7_1).f1)) := (blk_cell BK181.out 1).trans rfl
                                          have hcz91_2 : wc.cell? ⟨gb181, 2, none⟩ = some (.int .i64 ((rd_T33 t172 x7_1).f2)) := (blk_cell BK181.out 2).trans rfl
                                          have hcz91_3 : wc.cell? ⟨gb181, 3, none⟩ = some (.string ((rd_T33 t172 x7_1).f3)) := (blk_cell BK181.out 3).trans rfl
                                          have hfz91_0 := blk_frozen BK181.out 0
                                          have hfz91_1 := blk_frozen BK181.out 1
                                          have hfz91_2 := blk_frozen BK181.out 2
                                          have hfz91_3 := blk_frozen BK181.out 3
                                          have hcz92_0 : wc.cell? ⟨gb176, 0, none⟩ = some (.slice Ao11 t169.length co11) := (blk_cell BK176.out 0).trans rfl
                                          have hcz92_1 : wc.cell? ⟨gb176, 1, none⟩ = some (.slice (some ad180) t172.length co13) := (blk_cell BK176.out 1).trans rfl
                                          have hfz92_0 := blk_frozen BK176.out 0
                                          have hfz92_1 := blk_frozen BK176.out 1
                                          have p89 : 0 ≤ (((rd_T33 t172 x7_1).f1) : Int) := of_decide_eq_true (by first | (with_reducible assumption) | assumption)
                                          have q89 : (((rd_T33 t172 x7_1).f1) : Int) < ((x6_1.length : Int) : Int) := of_decide_eq_true (by first | (with_reducible assumption) | assumption)
                                          obtain ⟨go89, co89, eo89, gb89, gl89, cl89, HG89⟩ := Kd.R_form HO_6.out (by omega)
                                          (first | cases eo89 | (injection eo89 with ea_ en_ ec_; (first | subst ea_ | (injection ea_ with ea_; subst ea_)); subst ec_; clear en_))
                                          have GB89 := Aside0.mk gb89
                                          have GG89 := Aside0.mk HG89
                                          clear gb89 gl89 HG89
                                          obtain ⟨hx89_0, hf89_0⟩ := Kd.R_celln false HO_6.out (((rd_T33 t172 x7_1).f1) : Int) p89 q89
                                          replace p89 := eq_true p89
                                          replace q89 := eq_true q89
                                          have HP93 := Kd.R_putg HO_6.out (((rd_T33 t172 x7_1).f1) : Int) true
                                          go_wp2_with (first | ((with_reducible refine gate_store (t := 4) (p := 127) rfl ?_); (try (rw [drewN_self wc]; generalize hq_ : World.drewN wc _ = wc; have n0_ := Aside0.mk (Kd.R_at hq_ HO_6.out); have n1_ := Aside0.mk (Kd.R_at hq_ HO_177000.out); have n2_ := Aside0.mk (Kd.R_at hq_ HO_177001.out); have n3_ := Aside0.mk (blk_at hq_ BK176.out); have n4_ := Aside0.mk (blk_at hq_ BK181.out); have n5_ := Aside0.mk (below_at hq_ HB.out); clear hq_ HO_6 HO_177000 HO_177001 BK176 BK181 HB; have HO_6 := n0_; have HO_177000 := n1_; have HO_177001 := n2_; have BK176 := n3_; have BK181 := n4_; have HB := n5_; clear n0_ n1_ n2_ n3_ n4_ n5_; (try (have HP93 := Kd.R_putg HO_6.out (((rd_T33 t172 x7_1).f1) : Int) true)))); refine store_event (t := 4) (p := 127) (v := ?vo_w94) (w1 := (wc.setCell ⟨go89, (((rd_T33 t172 x7_1).f1) : Int).toNat, none⟩ (.bool true))) ?hg ?ho ?hn ?hr ?_; (case ho => rfl); (case hg => rfl); (case hn => rfl); (case hr => first | (go_simp; done) | (go_simp; rfl)); intro w94 hw; have hg : wc.grownBy w94 (some go89) := (by rw [hw]; exact HP93.2); have hp_ : Kd.R Kd.bool 4 w94 w.heap.size (fun _ => True) (.slice (some ⟨go89, 0, none⟩) x6_1.length co89) y185 := (by rw [hw, Ny185.out]; exact HP93.1); clear HP93; have n0_ := Aside0.mk (hp_); have n1_ := Aside0.mk (Kd.R_over' (v := (.slice (some ⟨go89, 0, none⟩) x6_1.length co89)) (by (with_reducible repeat (first | apply Kd.R_alloc | apply Kd.R_drewN | apply Kd.R_drew)); exact HO_177000.out) (Kd.R_typed HO_6.out) (by decide) hg); have n2_ := Aside0.mk (Kd.R_over' (v := (.slice (some ⟨go89, 0, none⟩) x6_1.length co89)) (by (with_reducible repeat (first | apply Kd.R_alloc | apply Kd.R_drewN | apply Kd.R_drew)); exact HO_177001.out) (Kd.R_typed HO_6.out) (by decide) hg); have n3_ := Aside0.mk (blk_grown (g := gb176) (o := .cells #[.slice Ao11 t169.length co11, .slice (some ad180) t172.length co13] 26 (0, 0)) (by (with_reducible repeat (first | refine blk_drewN ?_ _ | refine blk_drew ?_ | refine blk_alloc ?_ _)); exact BK176.out) hg (Kd.R_ne HO_6.out BK176.out (by decide))); have n4_ := Aside0.mk (blk_grown (g := gb181) (o := .cells #[.int .i64 ((rd_T33 t172 x7_1).f0), .int .i64 ((rd_T33 t172 x7_1).f1), .int .i64 ((rd_T33 t172 x7_1).f2), .string ((rd_T33 t172 x7_1).f3)] 33 (0, 0)) (by (with_reducible repeat (first | refine blk_drewN ?_ _ | refine blk_drew ?_ | refine blk_alloc ?_ _)); exact BK181.out) hg (Kd.R_ne HO_6.out BK181.out (by decide))); have n5_ := Aside0.mk ((by rw [hw]; exact below_set (HB.out) GB89.out : Below w.heap.size w w94)); clear HO_6; clear HO_177000; clear HO_177001; clear BK176; clear BK181; clear HB; have HO_6 := n0_; have HO_177000 := n1_; have HO_177001 := n2_; have BK176 := n3_; have BK181 := n4_; have HB := n5_; clear n0_ n1_ n2_ n3_ n4_ n5_; clear hg hw hp_))
                                          repeat (go_quiet (first | ((with_reducible refine gate_store (t := 4) (p := 127) rfl ?_); (try (rw [drewN_self wc]; generalize hq_ : World.drewN wc _ = wc; have n0_ := Aside0.mk (Kd.R_at hq_ HO_6.out); have n1_ := Aside0.mk (Kd.R_at hq_ HO_177000.out); have n2_ := Aside0.mk (Kd.R_at hq_ HO_177001.out); have n3_ := Aside0.mk (blk_at hq_ BK176.out); have n4_ := Aside0.mk (blk_at hq_ BK181.out); have n5_ := Aside0.mk (below_at hq_ HB.out); clear hq_ HO_6 HO_177000 HO_177001 BK176 BK181 HB; have HO_6 := n0_; have HO_177000 := n1_; have HO_177001 := n2_; have BK176 := n3_; have BK181 := n4_; have HB := n5_; clear n0_ n1_ n2_ n3_ n4_ n5_; (try (have HP93 := Kd.R_putg HO_6.out (((rd_T33 t172 x7_1).f1) : Int) true)))); refine store_event (t := 4) (p := 127) (v := ?vo_w94) (w1 := (wc.setCell ⟨go89, (((rd_T33 t172 x7_1).f1) : Int).toNat, none⟩ (.bool true))) ?hg ?ho ?hn ?hr ?_; (case ho => rfl); (case hg => rfl); (case hn => rfl); (case hr => first | (go_simp; done) | (go_simp; rfl)); intro w94 hw; have hg : wc.grownBy w94 (some go89) := (by rw [hw]; exact HP93.2); have hp_ : Kd.R Kd.bool 4 w94 w.heap.size (fun _ => True) (.slice (some ⟨go89, 0, none⟩) x6_1.length co89) y185 := (by rw [hw, Ny185.out]; exact HP93.1); clear HP93; have n0_ := Aside0.mk (hp_); have n1_ := Aside0.mk (Kd.R_over' (v := (.slice (some ⟨go89, 0, none⟩) x6_1.length co89)) (by (with_reducible repeat (first | apply Kd.R_alloc | apply Kd.R_drewN | apply Kd.R_drew)); exact HO_177000.out) (Kd.R_typed HO_6.out) (by decide) hg); have n2_ := Aside0.mk (Kd.R_over' (v := (.slice (some ⟨go89, 0, none⟩) x6_1.length co89)) (by (with_reducible repeat (first | apply Kd.R_alloc | apply Kd.R_drewN | apply Kd.R_drew)); exact HO_177001.out) (Kd.R_typed HO_6.out) (by decide) hg); have n3_ := Aside0.mk (blk_grown (g := gb176) (o := .cells #[.slice Ao11 t169.length co11, .slice (some ad180) t172.length co13] 26 (0, 0)) (by (with_reducible repeat (first | refine blk_drewN ?_ _ | refine blk_drew ?_ | refine blk_alloc ?_ _)); exact BK176.out) hg (Kd.R_ne HO_6.out BK176.out (by decide))); have n4_ := Aside0.mk (blk_grown (g := gb181) (o := .cells #[.int .i64 ((rd_T33 t172 x7_1).f0), .int .i64 ((rd_T33 t172 x7_1).f1), .int .i64 ((rd_T33 t172 x7_1).f2), .string ((rd_T33 t172 x7_1).f3)] 33 (0, 0)) (by (with_reducible repeat (first | refine blk_drewN ?_ _ | refine blk_drew ?_ | refine blk_alloc ?_ _)); exact BK181.out) hg (Kd.R_ne HO_6.out BK181.out (by decide))); have n5_ := Aside0.mk ((by rw [hw]; exact below_set (HB.out) GB89.out : Below w.heap.size w w94)); clear HO_6; clear HO_177000; clear HO_177001; clear BK176; clear BK181; clear HB; have HO_6 := n0_; have HO_177000 := n1_; have HO_177001 := n2_; have BK176 := n3_; have BK181 := n4_; have HB := n5_; clear n0_ n1_ n2_ n3_ n4_ n5_; clear hg hw hp_)); try go_wp2_with (first | ((with_reducible refine gate_store (t := 4) (p := 127) rfl ?_); (try (rw [drewN_self wc]; generalize hq_ : World.drewN wc _ = wc; have n0_ := Aside0.mk (Kd.R_at hq_ HO_6.out); have n1_ := Aside0.mk (Kd.R_at hq_ HO_177000.out); have n2_ := Aside0.mk (Kd.R_at hq_ HO_177001.out); have n3_ := Aside0.mk (blk_at hq_ BK176.out); have n4_ := Aside0.mk (blk_at hq_ BK181.out); have n5_ := Aside0.mk (below_at hq_ HB.out); clear hq_ HO_6 HO_177000 HO_177001 BK176 BK181 HB; have HO_6 := n0_; have HO_177000 := n1_; have HO_177001 := n2_; have BK176 := n3_; have BK181 := n4_; have HB := n5_; clear n0_ n1_ n2_ n3_ n4_ n5_; (try (have HP93 := Kd.R_putg HO_6.out (((rd_T33 t172 x7_1).f1) : Int) true)))); refine store_event (t := 4) (p := 127) (v := ?vo_w94) (w1 := (wc.setCell ⟨go89, (((rd_T33 t172 x7_1).f1) : Int).toNat, none⟩ (.bool true))) ?hg ?ho ?hn ?hr ?_; (case ho => rfl); (case hg => rfl); (case hn => rfl); (case hr => first | (go_simp; done) | (go_simp; rfl)); intro w94 hw; have hg : wc.grownBy w94 (some go89) := (by rw [hw]; exact HP93.2); have hp_ : Kd.R Kd.bool 4 w94 w.heap.size (fun _ => True) (.slice (some ⟨go89, 0, none⟩) x6_1.length co89) y185 := (by rw [hw, Ny185.out]; exact HP93.1); clear HP93; have n0_ := Aside0.mk (hp_); have n1_ := Aside0.mk (Kd.R_over' (v := (.slice (some ⟨go89, 0, none⟩) x6_1.length co89)) (by (with_reducible repeat (first | apply Kd.R_alloc | apply Kd.R_drewN | apply Kd.R_drew)); exact HO_177000.out) (Kd.R_typed HO_6.out) (by decide) hg); have n2_ := Aside0.mk (Kd.R_over' (v := (.slice (some ⟨go89, 0, none⟩) x6_1.length co89)) (by (with_reducible repeat (first | apply Kd.R_alloc | apply Kd.R_drewN | apply Kd.R_drew)); exact HO_177001.out) (Kd.R_typed HO_6.out) (by decide) hg); have n3_ := Aside0.mk (blk_grown (g := gb176) (o := .cells #[.slice Ao11 t169.length co11, .slice (some ad180) t172.length co13] 26 (0, 0)) (by (with_reducible repeat (first | refine blk_drewN ?_ _ | refine blk_drew ?_ | refine blk_alloc ?_ _)); exact BK176.out) hg (Kd.R_ne HO_6.out BK176.out (by decide))); have n4_ := Aside0.mk (blk_grown (g := gb181) (o := .cells #[.int .i64 ((rd_T33 t172 x7_1).f0), .int .i64 ((rd_T33 t172 x7_1).f1), .int .i64 ((rd_T33 t172 x7_1).f2), .string ((rd_T33 t172 x7_1).f3)] 33 (0, 0)) (by (with_reducible repeat (first | refine blk_drewN ?_ _ | refine blk_drew ?_ | refine blk_alloc ?_ _)); exact BK181.out) hg (Kd.R_ne HO_6.out BK181.out (by decide))); have n5_ := Aside0.mk ((by rw [hw]; exact below_set (HB.out) GB89.out : Below w.heap.size w w94)); clear HO_6; clear HO_177000; clear HO_177001; clear BK176; clear BK181; clear HB; have HO_6 := n0_; have HO_177000 := n1_; have HO_177001 := n2_; have BK176 := n3_; have BK181 := n4_; have HB := n5_; clear n0_ n1_ n2_ n3_ n4_ n5_; clear hg hw hp_)))
                                          go_meet
                                          case rel => exact ⟨_, (y185), H', ⟨by have := HK1.out; have := HJ17.out; have := HJ34.out; first | omega | exact Nat.le_refl _⟩, ⟨by (with_reducible repeat (first | apply Kd.R_alloc | apply Kd.R_drewN | apply Kd.R_drew)); exact HO_6.out⟩, ⟨by (with_reducible repeat (first | apply Kd.R_alloc | apply Kd.R_drewN | apply Kd.R_drew)); exact HO_177000.out⟩, ⟨by (with_reducible repeat (first | apply Kd.R_alloc | apply Kd.R_drewN | apply Kd.R_drew)); exact HO_177001.out⟩, ⟨by (with_reducible repeat (first | refine blk_drewN ?_ _ | refine blk_drew ?_ | refine blk_alloc ?_ _)); exact BK176.out⟩, ⟨by (with_reducible repeat (first | refine blk_drewN ?_ _ | refine blk_drew ?_ | refine blk_alloc ?_ _)); exact BK181.out⟩, ⟨by repeat (first | (with_reducible first | exact HB.out | apply below_alloc | apply pw_below_drewN | apply below_drew1 | refine below_set ?_ GE176.out | refine below_set ?_ GE181.out) | exact HB.out)⟩⟩
                                        · rw [if_neg c88] at H
                                          exact absurd H (by simp)
                                      · rw [if_neg c87] at H
                                        exact absurd H (by simp)
                            case rest =>
                             as_aux_lemma =>
                              clear HC55
                              try clear c1
                              try clear p1
                              try clear q1
                              try clear hx1
                              try clear c2
                              try clear p2
                              try clear c3
                              try clear c4
                              try clear c5
                              try clear c5b0
                              try clear c5b1
                              try clear c6
                              try clear c6b0
                              try clear c6b1
                              try clear p6
                              try clear c7
                              try clear c7b0
                              try clear c7b1
                              try clear p7
                              try clear q7
                              try clear hx7
                              try clear hf7
                              try clear c8
                              try clear p8
                              try clear q8
                              try clear hx8
                              try clear hf8
                              try clear c9
                              try clear c16
                              try clear c16b0
                              try clear c17
                              try clear c17b0
                              try clear p18
                              try clear q18
                              try clear hx18
                              try clear c21
                              try clear c23
                              try clear c23b0
                              try clear c23b1
                              try clear c23b2
                              try clear c24
                              try clear c26
                              try clear c26b0
                              try clear c27
                              try clear c29
                              try clear c29b0
                              try clear c30
                              try clear c32
                              try clear c34
                              try clear c36
                              try clear c36b0
                              try clear c36b1
                              try clear c37
                              try clear c37b0
                              try clear c37b1
                              try clear c38
                              try clear c38b0
                              try clear c39
                              try clear c39b0
                              try clear c40
                              try clear c40b0
                              try clear c41
                              try clear c44
                              try clear c46
                              try clear c48
                              try clear c48b0
                              try clear c49
                              try clear c49b0
                              try clear c50
                              try clear c50b0
                              try clear c51
                              try clear c54
                              try clear c56
                              try clear c58
                              try clear c58b0
                              try clear c58b1
                              try clear c59
                              try clear c59b0
                              try clear c59b1
                              try clear c60
                              try clear c60b0
                              try clear c60b1
                              try clear c61
                              try clear c63
                              try clear c65
                              try clear c67
                              try clear c67b0
                              try clear c68
                              try clear c70
                              try clear c70b0
                              try clear c71
                              try clear c74
                              try clear c74b0
                              try clear c74b1
                              try clear c75
                              try clear c75b0
                              try clear c75b1
                              try clear c76
                              try clear c76b0
                              try clear c77
                              try clear c77b0
                              try clear p78
                              try clear q78
                              try clear hx78
                              try clear hf78
                              try clear c79
                              try clear c84
                              try clear c87
                              try clear c87b0
                              try clear c88
                              try clear c88b0
                              try clear p89
                              try clear q89
                              try clear hx89
                              try clear hf89
                              try clear c90
                              try clear hcz12_0
                              try clear hcz12_1
                              try clear hcz19_0
                              try clear hcz19_1
                              try clear hcz22_0
                              try clear hcz22_1
                              try clear hcz22_2
                              try clear hcz22_3
                              try clear hcz25_0
                              try clear hcz25_1
                              try clear hcz25_2
                              try clear hcz25_3
                              try clear hcz28_0
                              try clear hcz28_1
                              try clear hcz28_2
                              try clear hcz28_3
                              try clear hcz31_0
                              try clear hcz31_1
                              try clear hcz31_2
                              try clear hcz31_3
                              try clear hcz33_0
                              try clear hcz33_1
                              try clear hcz33_2
                              try clear hcz33_3
                              try clear hcz42_0
                              try clear hcz42_1
                              try clear hcz42_2
                              try clear hcz42_3
                              try clear hcz43_0
                              try clear hcz43_1
                              try clear hcz45_0
                              try clear hcz45_1
                              try clear hcz45_2
                              try clear hcz45_3
                              try clear hcz47_0
                              try clear hcz47_1
                              try clear hcz47_2
                              try clear hcz47_3
                              try clear hcz52_0
                              try clear hcz52_1
                              try clear hcz53_0
                              try clear hcz53_1
                              try clear hcz53_2
                              try clear hcz53_3
                              try clear hcz57_0
                              try clear hcz57_1
                              try clear hcz57_2
                              try clear hcz57_3
                              try clear hcz62_0
                              try clear hcz62_1
                              try clear hcz62_2
                              try clear hcz62_3
                              try clear hcz64_0
                              try clear hcz64_1
                              try clear hcz64_2
                              try clear hcz64_3
                              try clear hcz66_0
                              try clear hcz66_1
                              try clear hcz66_2
                              try clear hcz66_3
                              try clear hcz69_0
                              try clear hcz69_1
                              try clear hcz69_2
                              try clear hcz69_3
                              try clear hcz72_0
                              try clear hcz72_1
                              try clear hcz72_2
                              try clear hcz72_3
                              try clear hcz73_0
                              try clear hcz73_1
                              try clear hcz80_0
                              try clear hcz80_1
                              try clear hcz80_2
                              try clear hcz80_3
                              try clear hcz81_0
                              try clear hcz81_1
                              try clear hcz85_0
                              try clear hcz85_1
                              try clear hcz85_2
                              try clear hcz85_3
                              try clear hcz86_0
                              try clear hcz86_1
                              try clear hcz91_0
                              try clear hcz91_1
                              try clear hcz91_2
                              try clear hcz91_3
                              try clear hcz92_0
                              try clear hcz92_1
                              try clear hfz12_0
                              try clear hfz12_1
                              try clear hfz19_0
                              try clear hfz19_1
                              try clear hfz22_0
                              try clear hfz22_1
                              try clear hfz22_2
                              try clear hfz22_3
                              try clear hfz25_0
                              try clear hfz25_1
                              try clear hfz25_2
                              try clear hfz25_3
                              try clear hfz28_0
                              try clear hfz28_1
                              try clear hfz28_2
                              try clear hfz28_3
                              try clear hfz31_0
                              try clear hfz31_1
                              try clear hfz31_2
                              try clear hfz31_3
                              try clear hfz33_0
                              try clear hfz33_1
                              try clear hfz33_2
                              try clear hfz33_3
                              try clear hfz42_0
                              try clear hfz42_1
                              try clear hfz42_2
                              try clear hfz42_3
                              try clear hfz43_0
                              try clear hfz43_1
                              try clear hfz45_0
                              try clear hfz45_1
                              try clear hfz45_2
                              try clear hfz45_3
                              try clear hfz47_0
                              try clear hfz47_1
                              try clear hfz47_2
                              try clear hfz47_3
                              try clear hfz52_0
                              try clear hfz52_1
                              try clear hfz53_0
                              try clear hfz53_1
                              try clear hfz53_2
                              try clear hfz53_3
                              try clear hfz57_0
                              try clear hfz57_1
                              try clear hfz57_2
                              try clear hfz57_3
                              try clear hfz62_0
                              try clear hfz62_1
                              try clear hfz62_2
                              try clear hfz62_3
                              try clear hfz64_0
                              try clear hfz64_1
                              try clear hfz64_2
                              try clear hfz64_3
                              try clear hfz66_0
                              try clear hfz66_1
                              try clear hfz66_2
                              try clear hfz66_3
                              try clear hfz69_0
                              try clear hfz69_1
                              try clear hfz69_2
                              try clear hfz69_3
                              try clear hfz72_0
                              try clear hfz72_1
                              try clear hfz72_2
                              try clear hfz72_3
                              try clear hfz73_0
                              try clear hfz73_1
                              try clear hfz80_0
                              try clear hfz80_1
                              try clear hfz80_2
                              try clear hfz80_3
                              try clear hfz81_0
                              try clear hfz81_1
                              try clear hfz85_0
                              try clear hfz85_1
                              try clear hfz85_2
                              try clear hfz85_3
                              try clear hfz86_0
                              try clear hfz86_1
                              try clear hfz91_0
                              try clear hfz91_1
                              try clear hfz91_2
                              try clear hfz91_3
                              try clear hfz92_0
                              try clear hfz92_1
                              try clear hx180_0
                              try clear hx180_1
                              try clear hx180_2
                              try clear hx180_3
                              try clear hx182_0
                              try clear hx182_1
                              try clear hx182_2
                              try clear hx182_3
                              try clear hx183_0
                              try clear hx183_1
                              try clear hx183_2
                              try clear hx183_3
                              try clear hx78_0
                              try clear hx89_0
                              try clear p1
                              try clear p18
                              try clear p180
                              try clear p182
                              try clear p183
                              try clear p2
                              try clear p6
                              try clear p78
                              try clear p89
                              try clear q1
                              try clear q18
                              try clear q180
                              try clear q182
                              try clear q183
                              try clear q78
                              try clear q89
                              obtain ⟨kq, x6_54, HA, HJ54, HO_6, HO_177000, HO_177001, BK176, BK181, HB⟩ := hcut
                              cases kq with
                              | zero => exact absurd HA.out (by simp [topiarylaw13_ParserStands.j3])
                              | succ kj54 =>
                                have H := HA.out
                                clear HA
                                simp only [topiarylaw13_ParserStands.j3] at H
                                have H' := Aside0.mk H
                                clear H
                                have hnb95 := NB181_176.out
                                have hnc95 := NB176_181.out
                                have hcz96_0 : wc.cell? ⟨gb181, 0, none⟩ = some (.int .i64 ((rd_T33 t172 x7_1).f0)) := (blk_cell BK181.out 0).trans rfl
                                have hcz96_1 : wc.cell? ⟨gb181, 1, none⟩ = some (.int .i64 ((rd_T33 t172 x7_1).f1)) := (blk_cell BK181.out 1).trans rfl
                                have hcz96_2 : wc.cell? ⟨gb181, 2, none⟩ = some (.int .i64 ((rd_T33 t172 x7_1).f2)) := (blk_cell BK181.out 2).trans rfl
                                have hcz96_3 : wc.cell? ⟨gb181, 3, none⟩ = some (.string ((rd_T33 t172 x7_1).f3)) := (blk_cell BK181.out 3).trans rfl
                                have hfz96_0 := blk_frozen BK181.out 0
                                have hfz96_1 := blk_frozen BK181.out 1
                                have hfz96_2 := blk_frozen BK181.out 2
                                have hfz96_3 := blk_frozen BK181.out 3
                                go_wp2
                                repeat (go_quiet (fail); try go_wp2)
                                go_loopg [9, 10] kj54 (fun kq v9 v10 w' => ∃ (x9_5 : Int) (x10_5 : Int), v9 = .int .i64 x9_5 ∧ v10 = .int .i64 x10_5 ∧ Aside0 (topiarylaw13_ParserStands.l1 kq t167 x6_54 x7_1 x9_5 x10_5 t169 t172 ((rd_T33 t172 x7_1).f0) ((rd_T33 t172 x7_1).f1) ((rd_T33 t172 x7_1).f2) ((rd_T33 t172 x7_1).f3) = some r) ∧ Aside0 (kq ≤ kj54) ∧ Aside0 (Kd.R Kd.bool 4 w' w.heap.size (fun _ => True) v178 x6_54) ∧ Aside0 (Kd.R Kd.string 9 w' w.heap.size (fun _ => True) (.slice Ao11 t169.length co11) t169) ∧ Aside0 (Kd.R k33 33 w' w.heap.size (fun k_ => k_ ≠ gb181) (.slice (some ad180) t172.length co13) t172) ∧ Aside0 (w'.heap[gb176]? = some (.cells #[(.slice Ao11 t169.length co11), (.slice (some ad180) t172.length co13)] 26 (0, 0))) ∧ Aside0 (w'.heap[gb181]? = some (.cells #[.int .i64 ((rd_T33 t172 x7_1).f0), .int .i64 ((rd_T33 t172 x7_1).f1), .int .i64 ((rd_T33 t172 x7_1).f2), .string ((rd_T33 t172 x7_1).f3)] 33 (0, 0))) ∧ Aside0 (Below w.heap.size w w'))
                                case atStart => exact ⟨((-1)), (wrap64 (((rd_T33 t172 x7_1).f2) + 1)), (by first | rfl | (simp; done) | (simp [*]; done)), (by first | rfl | (simp; done) | (simp [*]; done)), H', ⟨Nat.le_refl _⟩, ⟨by (with_reducible repeat (first | apply Kd.R_alloc | apply Kd.R_drewN | apply Kd.R_drew)); exact HO_6.out⟩, ⟨by (with_reducible repeat (first | apply Kd.R_alloc | apply Kd.R_drewN | apply Kd.R_drew)); exact HO_177000.out⟩, ⟨by (with_reducible repeat (first | apply Kd.R_alloc | apply Kd.R_drewN | apply Kd.R_drew)); exact HO_177001.out⟩, ⟨by (with_reducible repeat (first | refine blk_drewN ?_ _ | refine blk_drew ?_ | refine blk_alloc ?_ _)); exact BK176.out⟩, ⟨by (with_reducible repeat (first | refine blk_drewN ?_ _ | refine blk_drew ?_ | refine blk_alloc ?_ _)); exact BK181.out⟩, ⟨by repeat (first | (with_reducible first | exact HB.out | apply below_alloc | apply pw_below_drewN | apply below_drew1 | refine below_set ?_ GE176.out | refine below_set ?_ GE181.out) | exact HB.out)⟩⟩
                                case round =>
                                 as_aux_lemma =>
                                  clear H'
                                  try clear c1
                                  try clear p1
                                  try clear q1
                                  try clear hx1
                                  try clear c2
                                  try clear p2
                                  try clear c3
                                  try clear c4
                                  try clear c5
                                  try clear c5b0
                                  try clear c5b1
                                  try clear c6
                                  try clear c6b0
                                  try clear c6b1
                                  try clear p6
                                  try clear c7
                                  try clear c7b0
                                  try clear c7b1
                                  try clear p7
                                  try clear q7
                                  try clear hx7
                                  try clear hf7
                                  try clear c8
                                  try clear p8
                                  try clear q8
                                  try clear hx8
                                  try clear hf8
                                  try clear c9
                                  try clear c16
                                  try clear c16b0
                                  try clear c17
                                  try clear c17b0
                                  try clear p18
                                  try clear q18
                                  try clear hx18
                                  try clear c21
                                  try clear c23
                                  try clear c23b0
                                  try clear c23b1
                                  try clear c23b2
                                  try clear c24
                                  try clear c26
                                  try clear c26b0
                                  try clear c27
                                  try clear c29
                                  try clear c29b0
                                  try clear c30
                                  try clear c32
                                  try clear c34
                                  try clear c36
                                  try clear c36b0
                                  try clear c36b1
                                  try clear c37
                                  try clear c37b0
                                  try clear c37b1
                                  try clear c38
                                  try clear c38b0
                                  try clear c39
                                  try clear c39b0
                                  try clear c40
                                  try clear c40b0
                                  try clear c41
                                  try clear c44
                                  try clear c46
                                  try clear c48
                                  try clear c48b0
                                  try clear c49
                                  try clear c49b0
                                  try clear c50
                                  try clear c50b0
                                  try clear c51
                                  try clear c54
                                  try clear c56
                                  try clear c58
                                  try clear c58b0
                                  try clear c58b1
                                  try clear c59
                                  try clear c59b0
                                  try clear c59b1
                                  try clear c60
                                  try clear c60b0
                                  try clear c60b1
                                  try clear c61
                                  try clear c63
                                  try clear p64
                                  try clear c65
                                  try clear c67
                                  try clear c67b0
                                  try clear c68
                                  try clear c70
                                  try clear c70b0
                                  try clear c71
                                  try clear c74
                                  try clear c74b0
                                  try clear c74b1
                                  try clear c75
                                  try clear c75b0
                                  try clear c75b1
                                  try clear c76
                                  try clear c76b0
                                  try clear c77
                                  try clear c77b0
                                  try clear p78
                                  try clear q78
                                  try clear hx78
                                  try clear hf78
                                  try clear c79
                                  try clear c84
                                  try clear c87
                                  try clear c87b0
                                  try clear c88
                                  try clear c88b0
                                  try clear p89
                                  try clear q89
                                  try clear hx89
                                  try clear hf89
                                  try clear c90
                                  try clear c95
                                  try clear hcz12_0
                                  try clear hcz12_1
                                  try clear hcz19_0
                                  try clear hcz19_1
                                  try clear hcz22_0
                                  try clear hcz22_1
                                  try clear hcz22_2
                                  try clear hcz22_3
                                  try clear hcz25_0
                                  try clear hcz25_1
                                  try clear hcz25_2
                                  try clear hcz25_3
                                  try clear hcz28_0
                                  try clear hcz28_1
                                  try clear hcz28_2
                                  try clear hcz28_3
                                  try clear hcz31_0
                                  try clear hcz31_1
                                  try clear hcz31_2
                                  try clear hcz31_3
                                  try clear hcz33_0
                                  try clear hcz33_1
                                  try clear hcz33_2
                                  try clear hcz33_3
                                  try clear hcz42_0
                                  try clear hcz42_1
                                  try clear hcz42_2
                                  try clear hcz42_3
                                  try clear hcz43_0
                                  try clear hcz43_1
                                  try clear hcz45_0
                                  try clear hcz45_1
                                  try clear hcz45_2
                                  try clear hcz45_3
                                  try clear hcz47_0
                                  try clear hcz47_1
                                  try clear hcz47_2
                                  try clear hcz47_3
                                  try clear hcz52_0
                                  try clear hcz52_1
                                  try clear hcz53_0
                                  try clear hcz53_1
                                  try clear hcz53_2
                                  try clear hcz53_3
                                  try clear hcz57_0
                                  try clear hcz57_1
                                  try clear hcz57_2
                                  try clear hcz57_3
                                  try clear hcz62_0
                                  try clear hcz62_1
                                  try clear hcz62_2
                                  try clear hcz62_3
                                  try clear hcz64_0
                                  try clear hcz64_1
                                  try clear hcz64_2
                                  try clear hcz64_3
                                  try clear hcz66_0
                                  try clear hcz66_1
                                  try clear hcz66_2
                                  try clear hcz66_3
                                  try clear hcz69_0
                                  try clear hcz69_1
                                  try clear hcz69_2
                                  try clear hcz69_3
                                  try clear hcz72_0
                                  try clear hcz72_1
                                  try clear hcz72_2
                                  try clear hcz72_3
                                  try clear hcz73_0
                                  try clear hcz73_1
                                  try clear hcz80_0
                                  try clear hcz80_1
                                  try clear hcz80_2
                                  try clear hcz80_3
                                  try clear hcz81_0
                                  try clear hcz81_1
                                  try clear hcz85_0
                                  try clear hcz85_1
                                  try clear hcz85_2
                                  try clear hcz85_3
                                  try clear hcz86_0
                                  try clear hcz86_1
                                  try clear hcz91_0
                                  try clear hcz91_1
                                  try clear hcz91_2
                                  try clear hcz91_3
                                  try clear hcz92_0
                                  try clear hcz92_1
                                  try clear hcz96_0
                                  try clear hcz96_1
                                  try clear hcz96_2
                                  try clear hcz96_3
                                  try clear hfz12_0
                                  try clear hfz12_1
                                  try clear hfz19_0
                                  try clear hfz19_1
                                  try clear hfz22_0
                                  try clear hfz22_1
                                  try clear hfz22_2
                                  try clear hfz22_3
                                  try clear hfz25_0
                                  try clear hfz25_1
                                  try clear hfz25_2
                                  try clear hfz25_3
                                  try clear hfz28_0
                                  try clear hfz28_1
                                  try clear hfz28_2
                                  try clear hfz28_3
                                  try clear hfz31_0
                                  try clear hfz31_1
                                  try clear hfz31_2
                                  try clear hfz31_3
                                  try clear hfz33_0
                                  try clear hfz33_1
                                  try clear hfz33_2
                                  try clear hfz33_3
                                  try clear hfz42_0
                                  try clear hfz42_1
                                  try clear hfz42_2
                                  try clear hfz42_3
                                  try clear hfz43_0
                                  try clear hfz43_1
                                  try clear hfz45_0
                                  try clear hfz45_1
                                  try clear hfz45_2
                                  try clear hfz45_3
                                  try clear hfz47_0
                                  try clear hfz47_1
                                  try clear hfz47_2
                                  try clear hfz47_3
                                  try clear hfz52_0
                                  try clear hfz52_1
                                  try clear hfz53_0
                                  try clear hfz53_1
                                  try clear hfz53_2
                                  try clear hfz53_3
                                  try clear hfz57_0
                                  try clear hfz57_1
                                  try clear hfz57_2
                                  try clear hfz57_3
                                  try clear hfz62_0
                                  try clear hfz62_1
                                  try clear hfz62_2
                                  try clear hfz62_3
                                  try clear hfz64_0
                                  try clear hfz64_1
                                  try clear hfz64_2
                                  try clear hfz64_3
                                  try clear hfz66_0
                                  try clear hfz66_1
                                  try clear hfz66_2
                                  try clear hfz66_3
                                  try clear hfz69_0
                                  try clear hfz69_1
                                  try clear hfz69_2
                                  try clear hfz69_3
                                  try clear hfz72_0
                                  try clear hfz72_1
                                  try clear hfz72_2
                                  try clear hfz72_3
                                  try clear hfz73_0
                                  try clear hfz73_1
                                  try clear hfz80_0
                                  try clear hfz80_1
                                  try clear hfz80_2
                                  try clear hfz80_3
                                  try clear hfz81_0
                                  try clear hfz81_1
                                  try clear hfz85_0
                                  try clear hfz85_1
                                  try clear hfz85_2
                                  try clear hfz85_3
                                  try clear hfz86_0
                                  try clear hfz86_1
                                  try clear hfz91_0
                                  try clear hfz91_1
                                  try clear hfz91_2
                                  try clear hfz91_3
                                  try clear hfz92_0
                                  try clear hfz92_1
                                  try clear hfz96_0
                                  try clear hfz96_1
                                  try clear hfz96_2
                                  try clear hfz96_3
                                  try clear hx180_0
                                  try clear hx180_1
                                  try clear hx180_2
                                  try clear hx180_3
                                  try clear hx182_0
                                  try clear hx182_1
                                  try clear hx182_2
                                  try clear hx182_3
                                  try clear hx183_0
                                  try clear hx183_1
                                  try clear hx183_2
                                  try clear hx183_3
                                  try clear hx78_0
                                  try clear hx89_0
                                  try clear p1
                                  try clear p18
                                  try clear p180
                                  try clear p182
                                  try clear p183
                                  try clear p2
                                  try clear p6
                                  try clear p7
                                  try clear p78
                                  try clear p8
                                  try clear p89
                                  try clear q1
                                  try clear q18
                                  try clear q180
                                  try clear q182
                                  try clear q183
                                  try clear q7
                                  try clear q78
                                  try clear q8
                                  try clear q89
                                  obtain ⟨x9_5, x10_5, rfl, rfl, HA, HK5, HO_6, HO_177000, HO_177001, BK176, BK181, HB⟩ := hrel
                                  cases gk with
                                  | zero => exact absurd HA.out (by simp [topiarylaw13_ParserStands.l1])
                                  | succ k5 =>
                                    have H := HA.out
                                    clear HA
                                    simp only [topiarylaw13_ParserStands.l1] at H
                                    by_cases c97 : x10_5 < x7_1
                                    · rw [if_pos c97] at H
                                      have c97b0 : decide (x10_5 < x7_1) = true := decide_eq_true c97
                                      clear c97
                                      by_cases c98 : 0 ≤ x10_5
                                      · rw [if_pos c98] at H
                                        have c98b0 : decide (0 ≤ x10_5) = true := decide_eq_true c98
                                        clear c98
                                        by_cases c99 : x10_5 < (t172.length : Int)
                                        · rw [if_pos c99] at H
                                          have c99b0 : decide (x10_5 < (t172.length : Int)) = true := decide_eq_true c99
                                          clear c99
                                          by_cases c100 : ((rd_T33 t172 x10_5).f2) = ((rd_T33 t172 x7_1).f2)
                                          · rw [if_pos c100] at H
                                            have c100b0 : (((rd_T33 t172 x10_5).f2) == ((rd_T33 t172 x7_1).f2)) = true := beq_iff_eq.mpr c100
                                            have c100b1 : (((rd_T33 t172 x10_5).f2) != ((rd_T33 t172 x7_1).f2)) = false := bne_eq_false_iff_eq.mpr c100
                                            clear c100
                                            by_cases c101 : x7_1 > 0
                                            · rw [if_pos c101] at H
                                              have c101b0 : decide (0 < x7_1) = true := decide_eq_true c101
                                              clear c101
                                              have H' := Aside0.mk H
                                              clear H
                                              have hnb102 := NB176_181.out
                                              have hnc102 := NB181_176.out
                                              have hcz103_0 : wr.cell? ⟨gb176, 0, none⟩ = some (.slice Ao11 t169.length co11) := (blk_cell BK176.out 0).trans rfl
                                              have hcz103_1 : wr.cell? ⟨gb176, 1, none⟩ = some (.slice (some ad180) t172.length co13) := (blk_cell BK176.out 1).trans rfl
                                              have hfz103_0 := blk_frozen BK176.out 0
                                              have hfz103_1 := blk_frozen BK176.out 1
                                              have p186 : 0 ≤ (x10_5 : Int) := of_decide_eq_true (by first | (with_reducible assumption) | assumption)
                                              have q186 : x10_5 < (t172.length : Int) := of_decide_eq_true (by first | (with_reducible assumption) | assumption)
                                              obtain ⟨ad186, e186, hx186_0, hx186_1, hx186_2, hx186_3⟩ := at_T33 (Kd.R_reads' HO_177001.out).2.2 x10_5 p186 q186
                                              obtain rfl : ad180 = ad186 := (by injection e186)
                                              replace p186 := eq_true p186
                                              replace q186 := eq_true q186
                                              have hcz104_0 : wr.cell? ⟨gb181, 0, none⟩ = some (.int .i64 ((rd_T33 t172 x7_1).f0)) := (blk_cell BK181.out 0).trans rfl
                                              have hcz104_1 : wr.cell? ⟨gb181, 1, none⟩ = some (.int .i64 ((rd_T33 t172 x7_1).f1)) := (blk_cell BK181.out 1).trans rfl
                                              have hcz104_2 : wr.cell? ⟨gb181, 2, none⟩ = some (.int .i64 ((rd_T33 t172 x7_1).f2)) := (blk_cell BK181.out 2).trans rfl
                                              have hcz104_3 : wr.cell? ⟨gb181, 3, none⟩ = some (.string ((rd_T33 t172 x7_1).f3)) := (blk_cell BK181.out 3).trans rfl
                                              have hfz104_0 := blk_frozen BK181.out 0
                                              have hfz104_1 := blk_frozen BK181.out 1
                                              have hfz104_2 := blk_frozen BK181.out 2
                                              have hfz104_3 := blk_frozen BK181.out 3
                                              go_wp2
                                              repeat (go_quiet (fail); try go_wp2)
                                              go_roundg k5
                                              case measure => have := HK1.out; have := HJ17.out; have := HJ34.out; have := HJ54.out; have := HK5.out; omega
                                              case rel => exact ⟨(x10_5), (wrap64 (x10_5 + 1)), (by first | rfl | (simp; done) | (simp [*]; done)), (by first | rfl | (simp; done) | (simp [*]; done)), H', ⟨by have := HK1.out; have := HJ17.out; have := HJ34.out; have := HJ54.out; have := HK5.out; omega⟩, ⟨by (with_reducible repeat (first | apply Kd.R_alloc | apply Kd.R_drewN | apply Kd.R_drew)); exact HO_6.out⟩, ⟨by (with_reducible repeat (first | apply Kd.R_alloc | apply Kd.R_drewN | apply Kd.R_drew)); exact HO_177000.out⟩, ⟨by (with_reducible repeat (first | apply Kd.R_alloc | apply Kd.R_drewN | apply Kd.R_drew)); exact HO_177001.out⟩, ⟨by (with_reducible repeat (first | refine blk_drewN ?_ _ | refine blk_drew ?_ | refine blk_alloc ?_ _)); exact BK176.out⟩, ⟨by (with_reducible repeat (first | refine blk_drewN ?_ _ | refine blk_drew ?_ | refine blk_alloc ?_ _)); exact BK181.out⟩, ⟨by repeat (first | (with_reducible first | exact HB.out | apply below_alloc | apply pw_below_drewN | apply below_drew1 | refine below_set ?_ GE176.out | refine below_set ?_ GE181.out) | exact HB.out)⟩⟩
                                            · rw [if_neg c101] at H
                                              have c101b0 : decide (0 < x7_1) = false := decide_eq_false c101
                                              clear c101
                                              have H' := Aside0.mk H
                                              clear H
                                              have hnb105 := NB176_181.out
                                              have hnc105 := NB181_176.out
                                              have hcz106_0 : wr.cell? ⟨gb176, 0, none⟩ = some (.slice Ao11 t169.length co11) := (blk_cell BK176.out 0).trans rfl
                                              have hcz106_1 : wr.cell? ⟨gb176, 1, none⟩ = some (.slice (some ad180) t172.length co13) := (blk_cell BK176.out 1).trans rfl
                                              have hfz106_0 := blk_frozen BK176.out 0
                                              have hfz106_1 := blk_frozen BK176.out 1
                                              have p186 : 0 ≤ (x10_5 : Int) := of_decide_eq_true (by first | (with_reducible assumption) | assumption)
                                              have q186 : x10_5 < (t172.length : Int) := of_decide_eq_true (by first | (with_reducible assumption) | assumption)
                                              obtain ⟨ad186, e186, hx186_0, hx186_1, hx186_2, hx186_3⟩ := at_T33 (Kd.R_reads' HO_177001.out).2.2 x10_5 p186 q186
                                              obtain rfl : ad180 = ad186 := (by injection e186)
                                              replace p186 := eq_true p186
                                              replace q186 := eq_true q186
                                              have hcz107_0 : wr.cell? ⟨gb181, 0, none⟩ = some (.int .i64 ((rd_T33 t172 x7_1).f0)) := (blk_cell BK181.out 0).trans rfl
                                              have hcz107_1 : wr.cell? ⟨gb181, 1, none⟩ = some (.int .i64 ((rd_T33 t172 x7_1).f1)) := (blk_cell BK181.out 1).trans rfl
                                              have hcz107_2 : wr.cell? ⟨gb181, 2, none⟩ = some (.int .i64 ((rd_T33 t172 x7_1).f2)) := (blk_cell BK181.out 2).trans rfl
                                              have hcz107_3 : wr.cell? ⟨gb181, 3, none⟩ = some (.string ((rd_T33 t172 x7_1).f3)) := (blk_cell BK181.out 3).trans rfl
                                              have hfz107_0 := blk_frozen BK181.out 0
                                              have hfz107_1 := blk_frozen BK181.out 1
                                              have hfz107_2 := blk_frozen BK181.out 2
                                              have hfz107_3 := blk_frozen BK181.out 3
                                              go_wp2
                                              repeat (go_quiet (fail); try go_wp2)
                                              go_roundg k5
                                              case measure => have := HK1.out; have := HJ17.out; have := HJ34.out; have := HJ54.out; have := HK5.out; omega
                                              case rel => exact ⟨(x9_5), (wrap64 (x10_5 + 1)), (by first | rfl | (simp; done) | (simp [*]; done)), (by first | rfl | (simp; done) | (simp [*]; done)), H', ⟨by have := HK1.out; have := HJ17.out; have := HJ34.out; have := HJ54.out; have := HK5.out; omega⟩, ⟨by (with_reducible repeat (first | apply Kd.R_alloc | apply Kd.R_drewN | apply Kd.R_drew)); exact HO_6.out⟩, ⟨by (with_reducible repeat (first | apply Kd.R_alloc | apply Kd.R_drewN | apply Kd.R_drew)); exact HO_177000.out⟩, ⟨by (with_reducible repeat (first | apply Kd.R_alloc | apply Kd.R_drewN | apply Kd.R_drew)); exact HO_177001.out⟩, ⟨by (with_reducible repeat (first | refine blk_drewN ?_ _ | refine blk_drew ?_ | refine blk_alloc ?_ _)); exact BK176.out⟩, ⟨by (with_reducible repeat (first | refine blk_drewN ?_ _ | refine blk_drew ?_ | refine blk_alloc ?_ _)); exact BK181.out⟩, ⟨by repeat (first | (with_reducible first | exact HB.out | apply below_alloc | apply pw_below_drewN | apply below_drew1 | refine below_set ?_ GE176.out | refine below_set ?_ GE181.out) | exact HB.out)⟩⟩
                                          · rw [if_neg c100] at H
                                            have c100b0 : (((rd_T33 t172 x10_5).f2) == ((rd_T33 t172 x7_1).f2)) = false := beq_eq_false_iff_ne.mpr c100
                                            have c100b1 : (((rd_T33 t172 x10_5).f2) != ((rd_T33 t172 x7_1).f2)) = true := bne_iff_ne.mpr c100
                                            have H' := Aside0.mk H
                                            clear H
                                            have hnb108 := NB176_181.out
                                            have hnc108 := NB181_176.out
                                            have hcz109_0 : wr.cell? ⟨gb176, 0, none⟩ = some (.slice Ao11 t169.length co11) := (blk_cell BK176.out 0).trans rfl
                                            have hcz109_1 : wr.cell? ⟨gb176, 1, none⟩ = some (.slice (some ad180) t172.length co13) := (blk_cell BK176.out 1).trans rfl
                                            have hfz109_0 := blk_frozen BK176.out 0
                                            have hfz109_1 := blk_frozen BK176.out 1
                                            have p186 : 0 ≤ (x10_5 : Int) := of_decide_eq_true (by first | (with_reducible assumption) | assumption)
                                            have q186 : x10_5 < (t172.length : Int) := of_decide_eq_true (by first | (with_reducible assumption) | assumption)
                                            obtain ⟨ad186, e186, hx186_0, hx186_1, hx186_2, hx186_3⟩ := at_T33 (Kd.R_reads' HO_177001.out).2.2 x10_5 p186 q186
                                            obtain rfl : ad180 = ad186 := (by injection e186)
                                            replace p186 := eq_true p186
                                            replace q186 := eq_true q186
                                            have hcz110_0 : wr.cell? ⟨gb181, 0, none⟩ = some (.int .i64 ((rd_T33 t172 x7_1).f0)) := (blk_cell BK181.out 0).trans rfl
                                            have hcz110_1 : wr.cell? ⟨gb181, 1, none⟩ = some (.int .i64 ((rd_T33 t172 x7_1).f1)) := (blk_cell BK181.out 1).trans rfl
                                            have hcz110_2 : wr.cell? ⟨gb181, 2, none⟩ = some (.int .i64 ((rd_T33 t172 x7_1).f2)) := (blk_cell BK181.out 2).trans rfl
                                            have hcz110_3 : wr.cell? ⟨gb181, 3, none⟩ = some (.string ((rd_T33 t172 x7_1).f3)) := (blk_cell BK181.out 3).trans rfl
                                            have hfz110_0 := blk_frozen BK181.out 0
                                            have hfz110_1 := blk_frozen BK181.out 1
                                            have hfz110_2 := blk_frozen BK181.out 2
                                            have hfz110_3 := blk_frozen BK181.out 3
                                            go_wp2
                                            repeat (go_quiet (fail); try go_wp2)
                                            go_roundg k5
                                            case measure => have := HK1.out; have := HJ17.out; have := HJ34.out; have := HJ54.out; have := HK5.out; omega
                                            case rel => exact ⟨(x9_5), (wrap64 (x10_5 + 1)), (by first | rfl | (simp; done) | (simp [*]; done)), (by first | rfl | (simp; done) | (simp [*]; done)), H', ⟨by have := HK1.out; have := HJ17.out; have := HJ34.out; have := HJ54.out; have := HK5.out; omega⟩, ⟨by (with_reducible repeat (first | apply Kd.R_alloc | apply Kd.R_drewN | apply Kd.R_drew)); exact HO_6.out⟩, ⟨by (with_reducible repeat (first | apply Kd.R_alloc | apply Kd.R_drewN | apply Kd.R_drew)); exact HO_177000.out⟩, ⟨by (with_reducible repeat (first | apply Kd.R_alloc | apply Kd.R_drewN | apply Kd.R_drew)); exact HO_177001.out⟩, ⟨by (with_reducible repeat (first | refine blk_drewN ?_ _ | refine blk_drew ?_ | refine blk_alloc ?_ _)); exact BK176.out⟩, ⟨by (with_reducible repeat (first | refine blk_drewN ?_ _ | refine blk_drew ?_ | refine blk_alloc ?_ _)); exact BK181.out⟩, ⟨by repeat (first | (with_reducible first | exact HB.out | apply below_alloc | apply pw_below_drewN | apply below_drew1 | refine below_set ?_ GE176.out | refine below_set ?_ GE181.out) | exact HB.out)⟩⟩
                                        · rw [if_neg c99] at H
                                          exact absurd H (by simp)
                                      · rw [if_neg c98] at H
                                        exact absurd H (by simp)
                                    · rw [if_neg c97] at H
                                      have c97b0 : decide (x10_5 < x7_1) = false := decide_eq_false c97
                                      clear c97
                                      by_cases c111 : x9_5 ≥ 0
                                      · rw [if_pos c111] at H
                                        have c111b0 : decide (0 ≤ x9_5) = true := decide_eq_true c111
                                        clear c111
                                        by_cases c112 : ((rd_T33 t172 x7_1).f0) = 2
                                        · rw [if_pos c112] at H
                                          have c112b0 : (((rd_T33 t172 x7_1).f0) == 2) = true := beq_iff_eq.mpr c112
                                          have c112b1 : (((rd_T33 t172 x7_1).f0) != 2) = false := bne_eq_false_iff_eq.mpr c112
                                          clear c112
                                          by_cases c113 : 0 ≤ x9_5
                                          · rw [if_pos c113] at H
                                            have c113b0 : decide (0 ≤ x9_5) = true := decide_eq_true c113
                                            clear c113
                                            by_cases c114 : x9_5 < (t172.length : Int)
                                            · rw [if_pos c114] at H
                                              have c114b0 : decide (x9_5 < (t172.length : Int)) = true := decide_eq_true c114
                                              clear c114
                                              by_cases c115 : ((rd_T33 t172 x9_5).f0) = 2
                                              · rw [if_pos c115] at H
                                                have c115b0 : (((rd_T33 t172 x9_5).f0) == 2) = true := beq_iff_eq.mpr c115
                                                have c115b1 : (((rd_T33 t172 x9_5).f0) != 2) = false := bne_eq_false_iff_eq.mpr c115
                                                clear c115
                                                by_cases c116 : ((rd_T33 t172 x7_1).f0) = 3
                                                · rw [if_pos c116] at H
                                                  have c116b0 : (((rd_T33 t172 x7_1).f0) == 3) = true := beq_iff_eq.mpr c116
                                                  have c116b1 : (((rd_T33 t172 x7_1).f0) != 3) = false := bne_eq_false_iff_eq.mpr c116
                                                  clear c116
                                                  by_cases c117 : ((rd_T33 t172 x9_5).f0) = 3
                                                  · rw [if_pos c117] at H
                                                    have c117b0 : (((rd_T33 t172 x9_5).f0) == 3) = true := beq_iff_eq.mpr c117
                                                    have c117b1 : (((rd_T33 t172 x9_5).f0) != 3) = false := bne_eq_false_iff_eq.mpr c117
                                                    clear c117
                                                    obtain rfl := Option.some.inj H
                                                    have hnb118 := NB181_176.out
                                                    have hnc118 := NB176_181.out
                                                    have hcz119_0 : wr.cell? ⟨gb181, 0, none⟩ = some (.int .i64 ((rd_T33 t172 x7_1).f0)) := (blk_cell BK181.out 0).trans rfl
                                                    have hcz119_1 : wr.cell? ⟨gb181, 1, none⟩ = some (.int .i64 ((rd_T33 t172 x7_1).f1)) := (blk_cell BK181.out 1).trans rfl
                                                    have hcz119_2 : wr.cell? ⟨gb181, 2, none⟩ = some (.int .i64 ((rd_T33 t172 x7_1).f2)) := (blk_cell BK181.out 2).trans rfl
                                                    have hcz119_3 : wr.cell? ⟨gb181, 3, none⟩ = some (.string ((rd_T33 t172 x7_1).f3)) := (blk_cell BK181.out 3).trans rfl
                                                    have hfz119_0 := blk_frozen BK181.out 0
                                                    have hfz119_1 := blk_frozen BK181.out 1
                                                    have hfz119_2 := blk_frozen BK181.out 2
                                                    have hfz119_3 := blk_frozen BK181.out 3
                                                    have hcz120_0 : wr.cell? ⟨gb176, 0, none⟩ = some (.slice Ao11 t169.length co11) := (blk_cell BK176.out 0).trans rfl
                                                    have hcz120_1 : wr.cell? ⟨gb176, 1, none⟩ = some (.slice (some ad180) t172.length co13) := (blk_cell BK176.out 1).trans rfl
                                                    have hfz120_0 := blk_frozen BK176.out 0
                                                    have hfz120_1 := blk_frozen BK176.out 1
                                                    have p187 : 0 ≤ (x9_5 : Int) := of_decide_eq_true (by first | (with_reducible assumption) | assumption)
                                                    have q187 : x9_5 < (t172.length : Int) := of_decide_eq_true (by first | (with_reducible assumption) | assumption)
                                                    obtain ⟨ad187, e187, hx187_0, hx187_1, hx187_2, hx187_3⟩ := at_T33 (Kd.R_reads' HO_177001.out).2.2 x9_5 p187 q187
                                                    obtain rfl : ad180 = ad187 := (by injection e187)
                                                    replace p187 := eq_true p187
                                                    replace q187 := eq_true q187
                                                    have p188 : 0 ≤ (x9_5 : Int) := of_decide_eq_true (by first | (with_reducible assumption) | assumption)
                                                    have q188 : x9_5 < (t172.length : Int) := of_decide_eq_true (by first | (with_reducible assumption) | assumption)
                                                    obtain ⟨ad188, e188, hx188_0, hx188_1, hx188_2, hx188_3⟩ := at_T33 (Kd.R_reads' HO_177001.out).2.2 x9_5 p188 q188
                                                    obtain rfl : ad180 = ad188 := (by injection e188)
                                                    replace p188 := eq_true p188
                                                    replace q188 := eq_true q188
                                                    go_wp2
                                                    repeat (go_quiet (fail); try go_wp2)
                                                    go_ret
                                                    exact ⟨by first | rfl | (simp [errW_none, errW_some] <;> rfl) | (simp [*, errW_none, errW_some] <;> rfl), by repeat (first | (with_reducible first | exact HB.out | apply below_alloc | apply pw_below_drewN | apply below_drew1 | refine below_set ?_ GE176.out | refine below_set ?_ GE181.out) | exact HB.out)⟩
                                                  · rw [if_neg c117] at H
                                                    have c117b0 : (((rd_T33 t172 x9_5).f0) == 3) = false := beq_eq_false_iff_ne.mpr c117
                                                    have c117b1 : (((rd_T33 t172 x9_5).f0) != 3) = true := bne_iff_ne.mpr c117
                                                    have H' := Aside0.mk H
                                                    clear H
                                                    have hnb121 := NB181_176.out
                                                    have hnc121 := NB176_181.out
                                                    have hcz122_0 : wr.cell? ⟨gb181, 0, none⟩ = some (.int .i64 ((rd_T33 t172 x7_1).f0)) := (blk_cell BK181.out 0).trans rfl
                                                    have hcz122_1 : wr.cell? ⟨gb181, 1, none⟩ = some (.int .i64 ((rd_T33 t172 x7_1).f1)) := (blk_cell BK181.out 1).trans rfl
                                                    have hcz122_2 : wr.cell? ⟨gb181, 2, none⟩ = some (.int .i64 ((rd_T33 t172 x7_1).f2)) := (blk_cell BK181.out 2).trans rfl
                                                    have hcz122_3 : wr.cell? ⟨gb181, 3, none⟩ = some (.string ((rd_T33 t172 x7_1).f3)) := (blk_cell BK181.out 3).trans rfl
                                                    have hfz122_0 := blk_frozen BK181.out 0
                                                    have hfz122_1 := blk_frozen BK181.out 1
                                                    have hfz122_2 := blk_frozen BK181.out 2
                                                    have hfz122_3 := blk_frozen BK181.out 3
                                                    have hcz123_0 : wr.cell? ⟨gb176, 0, none⟩ = some (.slice Ao11 t169.length co11) := (blk_cell BK176.out 0).trans rfl
                                                    have hcz123_1 : wr.cell? ⟨gb176, 1, none⟩ = some (.slice (some ad180) t172.length co13) := (blk_cell BK176.out 1).trans rfl
                                                    have hfz123_0 := blk_frozen BK176.out 0
                                                    have hfz123_1 := blk_frozen BK176.out 1
                                                    have p187 : 0 ≤ (x9_5 : Int) := of_decide_eq_true (by first | (with_reducible assumption) | assumption)
                                                    have q187 : x9_5 < (t172.length : Int) := of_decide_eq_true (by first | (with_reducible assumption) | assumption)
                                                    obtain ⟨ad187, e187, hx187_0, hx187_1, hx187_2, hx187_3⟩ := at_T33 (Kd.R_reads' HO_177001.out).2.2 x9_5 p187 q187
                                                    obtain rfl : ad180 = ad187 := (by injection e187)
                                                    replace p187 := eq_true p187
                                                    replace q187 := eq_true q187
                                                    have p188 : 0 ≤ (x9_5 : Int) := of_decide_eq_true (by first | (with_reducible assumption) | assumption)
                                                    have q188 : x9_5 < (t172.length : Int) := of_decide_eq_true (by first | (with_reducible assumption) | assumption)
                                                    obtain ⟨ad188, e188, hx188_0, hx188_1, hx188_2, hx188_3⟩ := at_T33 (Kd.R_reads' HO_177001.out).2.2 x9_5 p188 q188
                                                    obtain rfl : ad180 = ad188 := (by injection e188)
                                                    replace p188 := eq_true p188
                                                    replace q188 := eq_true q188
                                                    go_wp2
                                                    repeat (go_quiet (fail); try go_wp2)
                                                    go_roundg k5
                                                    case measure => have := HK1.out; have := HJ17.out; have := HJ34.out; have := HJ54.out; have := HK5.out; omega
                                                    case rel => exact ⟨(x6_54), (wrap64 (x7_1 + 1)), (by first | rfl | (simp; done) | (simp [*]; done)), H', ⟨by have := HK1.out; have := HJ17.out; have := HJ34.out; have := HJ54.out; have := HK5.out; omega⟩, ⟨by (with_reducible repeat (first | apply Kd.R_alloc | apply Kd.R_drewN | apply Kd.R_drew)); exact HO_6.out⟩, ⟨by (with_reducible repeat (first | apply Kd.R_alloc | apply Kd.R_drewN | apply Kd.R_drew)); exact HO_177000.out⟩, ⟨by (with_reducible repeat (first | apply Kd.R_alloc | apply Kd.R_drewN | apply Kd.R_drew)); exact Kd.R_mono HO_177001.out (fun _ hk => trivial)⟩, ⟨by (with_reducible repeat (first | refine blk_drewN ?_ _ | refine blk_drew ?_ | refine blk_alloc ?_ _)); exact BK176.out⟩, ⟨by repeat (first | (with_reducible first | exact HB.out | apply below_alloc | apply pw_below_drewN | apply below_drew1 | refine below_set ?_ GE176.out | refine below_set ?_ GE181.out) | exact HB.out)⟩⟩
                                                · rw [if_neg c116] at H
                                                  have c116b0 : (((rd_T33 t172 x7_1).f0) == 3) = false := beq_eq_false_iff_ne.mpr c116
                                                  have c116b1 : (((rd_T33 t172 x7_1).f0) != 3) = true := bne_iff_ne.mpr c116
                                                  have H' := Aside0.mk H
                                                  clear H
                                                  have hnb124 := NB181_176.out
                                                  have hnc124 := NB176_181.out
                                                  have hcz125_0 : wr.cell? ⟨gb181, 0, none⟩ = some (.int .i64 ((rd_T33 t172 x7_1).f0)) := (blk_cell BK181.out 0).trans rfl
                                                  have hcz125_1 : wr.cell? ⟨gb181, 1, none⟩ = some (.int .i64 ((rd_T33 t172 x7_1).f1)) := (blk_cell BK181.out 1).trans rfl
                                                  have hcz125_2 : wr.cell? ⟨gb181, 2, none⟩ = some (.int .i64 ((rd_T33 t172 x7_1).f2)) := (blk_cell BK181.out 2).trans rfl
                                                  have hcz125_3 : wr.cell? ⟨gb181, 3, none⟩ = some (.string ((rd_T33 t172 x7_1).f3)) := (blk_cell BK181.out 3).trans rfl
                                                  have hfz125_0 := blk_frozen BK181.out 0
                                                  have hfz125_1 := blk_frozen BK181.out 1
                                                  have hfz125_2 := blk_frozen BK181.out 2
                                                  have hfz125_3 := blk_frozen BK181.out 3
                                                  have hcz126_0 : wr.cell? ⟨gb176, 0, none⟩ = some (.slice Ao11 t169.length co11) := (blk_cell BK176.out 0).trans rfl
                                                  have hcz126_1 : wr.cell? ⟨gb176, 1, none⟩ = some (.slice (some ad180) t172.length co13) := (blk_cell BK176.out 1).trans rfl
                                                  have hfz126_0 := blk_frozen BK176.out 0
                                                  have hfz126_1 := blk_frozen BK176.out 1
                                                  have p187 : 0 ≤ (x9_5 : Int) := of_decide_eq_true (by first | (with_reducible assumption) | assumption)
                                                  have q187 : x9_5 < (t172.length : Int) := of_decide_eq_true (by first | (with_reducible assumption) | assumption)
                                                  obtain ⟨ad187, e187, hx187_0, hx187_1, hx187_2, hx187_3⟩ := at_T33 (Kd.R_reads' HO_177001.out).2.2 x9_5 p187 q187
                                                  obtain rfl : ad180 = ad187 := (by injection e187)
                                                  replace p187 := eq_true p187
                                                  replace q187 := eq_true q187
                                                  go_wp2
                                                  repeat (go_quiet (fail); try go_wp2)
                                                  go_roundg k5
                                                  case measure => have := HK1.out; have := HJ17.out; have := HJ34.out; have := HJ54.out; have := HK5.out; omega
                                                  case rel => exact ⟨(x6_54), (wrap64 (x7_1 + 1)), (by first | rfl | (simp; done) | (simp [*]; done)), H', ⟨by have := HK1.out; have := HJ17.out; have := HJ34.out; have := HJ54.out; have := HK5.out; omega⟩, ⟨by (with_reducible repeat (first | apply Kd.R_alloc | apply Kd.R_drewN | apply Kd.R_drew)); exact HO_6.out⟩, ⟨by (with_reducible repeat (first | apply Kd.R_alloc | apply Kd.R_drewN | apply Kd.R_drew)); exact HO_177000.out⟩, ⟨by (with_reducible repeat (first | apply Kd.R_alloc | apply Kd.R_drewN | apply Kd.R_drew)); exact Kd.R_mono HO_177001.out (fun _ hk => trivial)⟩, ⟨by (with_reducible repeat (first | refine blk_drewN ?_ _ | refine blk_drew ?_ | refine blk_alloc ?_ _)); exact BK176.out⟩, ⟨by repeat (first | (with_reducible first | exact HB.out | apply below_alloc | apply pw_below_drewN | apply below_drew1 | refine below_set ?_ GE176.out | refine below_set ?_ GE181.out) | exact HB.out)⟩⟩
                                              · rw [if_neg c115] at H
                                                have c115b0 : (((rd_T33 t172 x9_5).f0) == 2) = false := beq_eq_false_iff_ne.mpr c115
                                                have c115b1 : (((rd_T33 t172 x9_5).f0) != 2) = true := bne_iff_ne.mpr c115
                                                obtain rfl := Option.some.inj H
                                                have hnb127 := NB181_176.out
                                                have hnc127 := NB176_181.out
                                                have hcz128_0 : wr.cell? ⟨gb181, 0, none⟩ = some (.int .i64 ((rd_T33 t172 x7_1).f0)) := (blk_cell BK181.out 0).trans rfl
                                                have hcz128_1 : wr.cell? ⟨gb181, 1, none⟩ = some (.int .i64 ((rd_T33 t172 x7_1).f1)) := (blk_cell BK181.out 1).trans rfl
                                                have hcz128_2 : wr.cell? ⟨gb181, 2, none⟩ = some (.int .i64 ((rd_T33 t172 x7_1).f2)) := (blk_cell BK181.out 2).trans rfl
                                                have hcz128_3 : wr.cell? ⟨gb181, 3, none⟩ = some (.string ((rd_T33 t172 x7_1).f3)) := (blk_cell BK181.out 3).trans rfl
                                                have hfz128_0 := blk_frozen BK181.out 0
                                                have hfz128_1 := blk_frozen BK181.out 1
                                                have hfz128_2 := blk_frozen BK181.out 2
                                                have hfz128_3 := blk_frozen BK181.out 3
                                                have hcz129_0 : wr.cell? ⟨gb176, 0, none⟩ = some (.slice Ao11 t169.length co11) := (blk_cell BK176.out 0).trans rfl
                                                have hcz129_1 : wr.cell? ⟨gb176, 1, none⟩ = some (.slice (some ad180) t172.length co13) := (blk_cell BK176.out 1).trans rfl
                                                have hfz129_0 := blk_frozen BK176.out 0
                                                have hfz129_1 := blk_frozen BK176.out 1
                                                have p187 : 0 ≤ (x9_5 : Int) := of_decide_eq_true (by first | (with_reducible assumption) | assumption)
                                                have q187 : x9_5 < (t172.length : Int) := of_decide_eq_true (by first | (with_reducible assumption) | assumption)
                                                obtain ⟨ad187, e187, hx187_0, hx187_1, hx187_2, hx187_3⟩ := at_T33 (Kd.R_reads' HO_177001.out).2.2 x9_5 p187 q187
                                                obtain rfl : ad180 = ad187 := (by injection e187)
                                                replace p187 := eq_true p187
                                                replace q187 := eq_true q187
                                                go_wp2
                                                repeat (go_quiet (fail); try go_wp2)
                                                go_ret
                                                exact ⟨by first | rfl | (simp [errW_none, errW_some] <;> rfl) | (simp [*, errW_none, errW_some] <;> rfl), by repeat (first | (with_reducible first | exact HB.out | apply below_alloc | apply pw_below_drewN | apply below_drew1 | refine below_set ?_ GE176.out | refine below_set ?_ GE181.out) | exact HB.out)⟩
                                            · rw [if_neg c114] at H
                                              exact absurd H (by simp)
                                          · rw [if_neg c113] at H
                                            exact absurd H (by simp)
                                        · rw [if_neg c112] at H
                                          have c112b0 : (((rd_T33 t172 x7_1).f0) == 2) = false := beq_eq_false_iff_ne.mpr c112
                                          have c112b1 : (((rd_T33 t172 x7_1).f0) != 2) = true := bne_iff_ne.mpr c112
                                          by_cases c130 : ((rd_T33 t172 x7_1).f0) = 3
                                          · rw [if_pos c130] at H
                                            have c130b0 : (((rd_T33 t172 x7_1).f0) == 3) = true := beq_iff_eq.mpr c130
                                            have c130b1 : (((rd_T33 t172 x7_1).f0) != 3) = false := bne_eq_false_iff_eq.mpr c130
                                            clear c130
                                            by_cases c131 : 0 ≤ x9_5
                                            · rw [if_pos c131] at H
                                              have c131b0 : decide (0 ≤ x9_5) = true := decide_eq_true c131
                                              clear c131
                                              by_cases c132 : x9_5 < (t172.length : Int)
                                              · rw [if_pos c132] at H
                                                have c132b0 : decide (x9_5 < (t172.length : Int)) = true := decide_eq_true c132
                                                clear c132
                                                by_cases c133 : ((rd_T33 t172 x9_5).f0) = 3
                                                · rw [if_pos c133] at H
                                                  have c133b0 : (((rd_T33 t172 x9_5).f0) == 3) = true := beq_iff_eq.mpr c133
                                                  have c133b1 : (((rd_T33 t172 x9_5).f0) != 3) = false := bne_eq_false_iff_eq.mpr c133
                                                  clear c133
                                                  obtain rfl := Option.some.inj H
                                                  have hnb134 := NB181_176.out
                                                  have hnc134 := NB176_181.out
                                                  have hcz135_0 : wr.cell? ⟨gb181, 0, none⟩ = some (.int .i64 ((rd_T33 t172 x7_1).f0)) := (blk_cell BK181.out 0).trans rfl
                                                  have hcz135_1 : wr.cell? ⟨gb181, 1, none⟩ = some (.int .i64 ((rd_T33 t172 x7_1).f1)) := (blk_cell BK181.out 1).trans rfl
                                                  have hcz135_2 : wr.cell? ⟨gb181, 2, none⟩ = some (.int .i64 ((rd_T33 t172 x7_1).f2)) := (blk_cell BK181.out 2).trans rfl
                                                  have hcz135_3 : wr.cell? ⟨gb181, 3, none⟩ = some (.string ((rd_T33 t172 x7_1).f3)) := (blk_cell BK181.out 3).trans rfl
                                                  have hfz135_0 := blk_frozen BK181.out 0
                                                  have hfz135_1 := blk_frozen BK181.out 1
                                                  have hfz135_2 := blk_frozen BK181.out 2
                                                  have hfz135_3 := blk_frozen BK181.out 3
                                                  have hcz136_0 : wr.cell? ⟨gb176, 0, none⟩ = some (.slice Ao11 t169.length co11) := (blk_cell BK176.out 0).trans rfl
                                                  have hcz136_1 : wr.cell? ⟨gb176, 1, none⟩ = some (.slice (some ad180) t172.length co13) := (blk_cell BK176.out 1).trans rfl
                                                  have hfz136_0 := blk_frozen BK176.out 0
                                                  have hfz136_1 := blk_frozen BK176.out 1
                                                  have p189 : 0 ≤ (x9_5 : Int) := of_decide_eq_true (by first | (with_reducible assumption) | assumption)
                                                  have q189 : x9_5 < (t172.length : Int) := of_decide_eq_true (by first | (with_reducible assumption) | assumption)
                                                  obtain ⟨ad189, e189, hx189_0, hx189_1, hx189_2, hx189_3⟩ := at_T33 (Kd.R_reads' HO_177001.out).2.2 x9_5 p189 q189
                                                  obtain rfl : ad180 = ad189 := (by injection e189)
                                                  replace p189 := eq_true p189
                                                  replace q189 := eq_true q189
                                                  go_wp2
                                                  repeat (go_quiet (fail); try go_wp2)
                                                  go_ret
                                                  exact ⟨by first | rfl | (simp [errW_none, errW_some] <;> rfl) | (simp [*, errW_none, errW_some] <;> rfl), by repeat (first | (with_reducible first | exact HB.out | apply below_alloc | apply pw_below_drewN | apply below_drew1 | refine below_set ?_ GE176.out | refine below_set ?_ GE181.out) | exact HB.out)⟩
                                                · rw [if_neg c133] at H
                                                  have c133b0 : (((rd_T33 t172 x9_5).f0) == 3) = false := beq_eq_false_iff_ne.mpr c133
                                                  have c133b1 : (((rd_T33 t172 x9_5).f0) != 3) = true := bne_iff_ne.mpr c133
                                                  have H' := Aside0.mk H
                                                  clear H
                                                  have hnb137 := NB181_176.out
                                                  have hnc137 := NB176_181.out
                                                  have hcz138_0 : wr.cell? ⟨gb181, 0, none⟩ = some (.int .i64 ((rd_T33 t172 x7_1).f0)) := (blk_cell BK181.out 0).trans rfl
                                                  have hcz138_1 : wr.cell? ⟨gb181, 1, none⟩ = some (.int .i64 ((rd_T33 t172 x7_1).f1)) := (blk_cell BK181.out 1).trans rfl
                                                  have hcz138_2 : wr.cell? ⟨gb181, 2, none⟩ = some (.int .i64 ((rd_T33 t172 x7_1).f2)) := (blk_cell BK181.out 2).trans rfl
                                                  have hcz138_3 : wr.cell? ⟨gb181, 3, none⟩ = some (.string ((rd_T33 t172 x7_1).f3)) := (blk_cell BK181.out 3).trans rfl
                                                  have hfz138_0 := blk_frozen BK181.out 0
                                                  have hfz138_1 := blk_frozen BK181.out 1
                                                  have hfz138_2 := blk_frozen BK181.out 2
                                                  have hfz138_3 := blk_frozen BK181.out 3
                                                  have hcz139_0 : wr.cell? ⟨gb176, 0, none⟩ = some (.slice Ao11 t169.length co11) := (blk_cell BK176.out 0).trans rfl
                                                  have hcz139_1 : wr.cell? ⟨gb176, 1, none⟩ = some (.slice (some ad180) t172.length co13) := (blk_cell BK176.out 1).trans rfl
                                                  have hfz139_0 := blk_frozen BK176.out 0
                                                  have hfz139_1 := blk_frozen BK176.out 1
                                                  have p189 : 0 ≤ (x9_5 : Int) := of_decide_eq_true (by first | (with_reducible assumption) | assumption)
                                                  have q189 : x9_5 < (t172.length : Int) := of_decide_eq_true (by first | (with_reducible assumption) | assumption)
                                                  obtain ⟨ad189, e189, hx189_0, hx189_1, hx189_2, hx189_3⟩ := at_T33 (Kd.R_reads' HO_177001.out).2.2 x9_5 p189 q189
                                                  obtain rfl : ad180 = ad189 := (by injection e189)
                                                  replace p189 := eq_true p189
                                                  replace q189 := eq_true q189
                                                  go_wp2
                                                  repeat (go_quiet (fail); try go_wp2)
                                                  go_roundg k5
                                                  case measure => have := HK1.out; have := HJ17.out; have := HJ34.out; have := HJ54.out; have := HK5.out; omega
                                                  case rel => exact ⟨(x6_54), (wrap64 (x7_1 + 1)), (by first | rfl | (simp; done) | (simp [*]; done)), H', ⟨by have := HK1.out; have := HJ17.out; have := HJ34.out; have := HJ54.out; have := HK5.out; omega⟩, ⟨by (with_reducible repeat (first | apply Kd.R_alloc | apply Kd.R_drewN | apply Kd.R_drew)); exact HO_6.out⟩, ⟨by (with_reducible repeat (first | apply Kd.R_alloc | apply Kd.R_drewN | apply Kd.R_drew)); exact HO_177000.out⟩, ⟨by (with_reducible repeat (first | apply Kd.R_alloc | apply Kd.R_drewN | apply Kd.R_drew)); exact Kd.R_mono HO_177001.out (fun _ hk => trivial)⟩, ⟨by (with_reducible repeat (first | refine blk_drewN ?_ _ | refine blk_drew ?_ | refine blk_alloc ?_ _)); exact BK176.out⟩, ⟨by repeat (first | (with_reducible first | exact HB.out | apply below_alloc | apply pw_below_drewN | apply below_drew1 | refine below_set ?_ GE176.out | refine below_set ?_ GE181.out) | exact HB.out)⟩⟩
                                              · rw [if_neg c132] at H
                                                exact absurd H (by simp)
                                            · rw [if_neg c131] at H
                                              exact absurd H (by simp)
                                          · rw [if_neg c130] at H
                                            have c130b0 : (((rd_T33 t172 x7_1).f0) == 3) = false := beq_eq_false_iff_ne.mpr c130
                                            have c130b1 : (((rd_T33 t172 x7_1).f0) != 3) = true := bne_iff_ne.mpr c130
                                            have H' := Aside0.mk H
                                            clear H
                                            have hnb140 := NB181_176.out
                                            have hnc140 := NB176_181.out
                                            have hcz141_0 : wr.cell? ⟨gb181, 0, none⟩ = some (.int .i64 ((rd_T33 t172 x7_1).f0)) := (blk_cell BK181.out 0).trans rfl
                                            have hcz141_1 : wr.cell? ⟨gb181, 1, none⟩ = some (.int .i64 ((rd_T33 t172 x7_1).f1)) := (blk_cell BK181.out 1).trans rfl
                                            have hcz141_2 : wr.cell? ⟨gb181, 2, none⟩ = some (.int .i64 ((rd_T33 t172 x7_1).f2)) := (blk_cell BK181.out 2).trans rfl
                                            have hcz141_3 : wr.cell? ⟨gb181, 3, none⟩ = some (.string ((rd_T33 t172 x7_1).f3)) := (blk_cell BK181.out 3).trans rfl
                                            have hfz141_0 := blk_frozen BK181.out 0
                                            have hfz141_1 := blk_frozen BK181.out 1
                                            have hfz141_2 := blk_frozen BK181.out 2
                                            have hfz141_3 := blk_frozen BK181.out 3
                                            go_wp2
                                            repeat (go_quiet (fail); try go_wp2)
                                            go_roundg k5
                                            case measure => have := HK1.out; have := HJ17.out; have := HJ34.out; have := HJ54.out; have := HK5.out; omega
                                            case rel => exact ⟨(x6_54), (wrap64 (x7_1 + 1)), (by first | rfl | (simp; done) | (simp [*]; done)), H', ⟨by have := HK1.out; have := HJ17.out; have := HJ34.out; have := HJ54.out; have := HK5.out; omega⟩, ⟨by (with_reducible repeat (first | apply Kd.R_alloc | apply Kd.R_drewN | apply Kd.R_drew)); exact HO_6.out⟩, ⟨by (with_reducible repeat (first | apply Kd.R_alloc | apply Kd.R_drewN | apply Kd.R_drew)); exact HO_177000.out⟩, ⟨by (with_reducible repeat (first | apply Kd.R_alloc | apply Kd.R_drewN | apply Kd.R_drew)); exact Kd.R_mono HO_177001.out (fun _ hk => trivial)⟩, ⟨by (with_reducible repeat (first | refine blk_drewN ?_ _ | refine blk_drew ?_ | refine blk_alloc ?_ _)); exact BK176.out⟩, ⟨by repeat (first | (with_reducible first | exact HB.out | apply below_alloc | apply pw_below_drewN | apply below_drew1 | refine below_set ?_ GE176.out | refine below_set ?_ GE181.out) | exact HB.out)⟩⟩
                                      · rw [if_neg c111] at H
                                        have c111b0 : decide (0 ≤ x9_5) = false := decide_eq_false c111
                                        clear c111
                                        have H' := Aside0.mk H
                                        clear H
                                        go_wp2
                                        repeat (go_quiet (fail); try go_wp2)
                                        go_roundg k5
                                        case measure => have := HK1.out; have := HJ17.out; have := HJ34.out; have := HJ54.out; have := HK5.out; omega
                                        case rel => exact ⟨(x6_54), (wrap64 (x7_1 + 1)), (by first | rfl | (simp; done) | (simp [*]; done)), H', ⟨by have := HK1.out; have := HJ17.out; have := HJ34.out; have := HJ54.out; have := HK5.out; omega⟩, ⟨by (with_reducible repeat (first | apply Kd.R_alloc | apply Kd.R_drewN | apply Kd.R_drew)); exact HO_6.out⟩, ⟨by (with_reducible repeat (first | apply Kd.R_alloc | apply Kd.R_drewN | apply Kd.R_drew)); exact HO_177000.out⟩, ⟨by (with_reducible repeat (first | apply Kd.R_alloc | apply Kd.R_drewN | apply Kd.R_drew)); exact Kd.R_mono HO_177001.out (fun _ hk => trivial)⟩, ⟨by (with_reducible repeat (first | refine blk_drewN ?_ _ | refine blk_drew ?_ | refine blk_alloc ?_ _)); exact BK176.out⟩, ⟨by repeat (first | (with_reducible first | exact HB.out | apply below_alloc | apply pw_below_drewN | apply below_drew1 | refine below_set ?_ GE176.out | refine below_set ?_ GE181.out) | exact HB.out)⟩⟩
              · rw [if_neg c17] at H
                exact absurd H (by simp)
            · rw [if_neg c16] at H
              have c16b0 : decide (x7_1 < (t172.length : Int)) = false := decide_eq_false c16
              clear c16
              have H' := Aside0.mk H
              clear H
              have hcz142_0 : wr.cell? ⟨gb176, 0, none⟩ = some (.slice Ao11 t169.length co11) := (blk_cell BK176.out 0).trans rfl
              have hcz142_1 : wr.cell? ⟨gb176, 1, none⟩ = some (.slice Ao13 t172.length co13) := (blk_cell BK176.out 1).trans rfl
              have hfz142_0 := blk_frozen BK176.out 0
              have hfz142_1 := blk_frozen BK176.out 1
              go_wp2
              repeat (go_quiet (fail); try go_wp2)
              go_loopg [11] k1 (fun kq v11 w' => ∃ (x11_2 : Int), v11 = .int .i64 x11_2 ∧ Aside0 (topiarylaw13_ParserStands.l2 kq t167 x6_1 x11_2 t169 t172 = some r) ∧ Aside0 (kq ≤ k1) ∧ Aside0 (Kd.R Kd.bool 4 w' w.heap.size (fun _ => True) v178 x6_1) ∧ Aside0 (Kd.R Kd.string 9 w' w.heap.size (fun _ => True) (.slice Ao11 t169.length co11) t169) ∧ Aside0 (Kd.R k33 33 w' w.heap.size (fun _ => True) (.slice Ao13 t172.length co13) t172) ∧ Aside0 (w'.heap[gb176]? = some (.cells #[(.slice Ao11 t169.length co11), (.slice Ao13 t172.length co13)] 26 (0, 0))) ∧ Aside0 (Below w.heap.size w w'))
              case atStart => exact ⟨(0), (by first | rfl | (simp; done) | (simp [*]; done)), H', ⟨Nat.le_refl _⟩, ⟨by (with_reducible repeat (first | apply Kd.R_alloc | apply Kd.R_drewN | apply Kd.R_drew)); exact HO_6.out⟩, ⟨by (with_reducible repeat (first | apply Kd.R_alloc | apply Kd.R_drewN | apply Kd.R_drew)); exact HO_177000.out⟩, ⟨by (with_reducible repeat (first | apply Kd.R_alloc | apply Kd.R_drewN | apply Kd.R_drew)); exact HO_177001.out⟩, ⟨by (with_reducible repeat (first | refine blk_drewN ?_ _ | refine blk_drew ?_ | refine blk_alloc ?_ _)); exact BK176.out⟩, ⟨by repeat (first | (with_reducible first | exact HB.out | apply below_alloc | apply pw_below_drewN | apply below_drew1 | refine below_set ?_ GE176.out) | exact HB.out)⟩⟩
              case round =>
               as_aux_lemma =>
                clear H'
                try clear c1
                try clear p1
                try clear q1
                try clear hx1
                try clear p2
                try clear p6
                try clear p7
                try clear q7
                try clear hx7
                try clear p8
                try clear q8
                try clear hx8
                try clear c9
                try clear c10
                try clear c11
                try clear c12
                try clear c13
                try clear c14
                try clear c16
                try clear c16b0
                try clear c17
                try clear p18
                try clear q18
                try clear hx18
                try clear p64
                try clear p78
                try clear q78
                try clear hx78
                try clear p89
                try clear q89
                try clear hx89
                try clear c97
                try clear c97b0
                try clear c98
                try clear c98b0
                try clear c99
                try clear c99b0
                try clear c100
                try clear c100b0
                try clear c100b1
                try clear c101
                try clear c101b0
                try clear c102
                try clear c105
                try clear c108
                try clear c111
                try clear c111b0
                try clear c112
                try clear c112b0
                try clear c112b1
                try clear c113
                try clear c113b0
                try clear c114
                try clear c114b0
                try clear c115
                try clear c115b0
                try clear c115b1
                try clear c116
                try clear c116b0
                try clear c116b1
                try clear c117
                try clear c117b0
                try clear c117b1
                try clear c118
                try clear c121
                try clear c124
                try clear c127
                try clear c130
                try clear c130b0
                try clear c130b1
                try clear c131
                try clear c131b0
                try clear c132
                try clear c132b0
                try clear c133
                try clear c133b0
                try clear c133b1
                try clear c134
                try clear c137
                try clear c140
                try clear hcz103_0
                try clear hcz103_1
                try clear hcz104_0
                try clear hcz104_1
                try clear hcz104_2
                try clear hcz104_3
                try clear hcz106_0
                try clear hcz106_1
                try clear hcz107_0
                try clear hcz107_1
                try clear hcz107_2
                try clear hcz107_3
                try clear hcz109_0
                try clear hcz109_1
                try clear hcz110_0
                try clear hcz110_1
                try clear hcz110_2
                try clear hcz110_3
                try clear hcz119_0
                try clear hcz119_1
                try clear hcz119_2
                try clear hcz119_3
                try clear hcz120_0
                try clear hcz120_1
                try clear hcz122_0
                try clear hcz122_1
                try clear hcz122_2
                try clear hcz122_3
                try clear hcz123_0
                try clear hcz123_1
                try clear hcz125_0
                try clear hcz125_1
                try clear hcz125_2
                try clear hcz125_3
                try clear hcz126_0
                try clear hcz126_1
                try clear hcz128_0
                try clear hcz128_1
                try clear hcz128_2
                try clear hcz128_3
                try clear hcz129_0
                try clear hcz129_1
                try clear hcz135_0
                try clear hcz135_1
                try clear hcz135_2
                try clear hcz135_3
                try clear hcz136_0
                try clear hcz136_1
                try clear hcz138_0
                try clear hcz138_1
                try clear hcz138_2
                try clear hcz138_3
                try clear hcz139_0
                try clear hcz139_1
                try clear hcz141_0
                try clear hcz141_1
                try clear hcz141_2
                try clear hcz141_3
                try clear hcz142_0
                try clear hcz142_1
                try clear hcz43_0
                try clear hcz43_1
                try clear hcz45_0
                try clear hcz45_1
                try clear hcz45_2
                try clear hcz45_3
                try clear hcz47_0
                try clear hcz47_1
                try clear hcz47_2
                try clear hcz47_3
                try clear hcz52_0
                try clear hcz52_1
                try clear hcz53_0
                try clear hcz53_1
                try clear hcz53_2
                try clear hcz53_3
                try clear hcz57_0
                try clear hcz57_1
                try clear hcz57_2
                try clear hcz57_3
                try clear hcz62_0
                try clear hcz62_1
                try clear hcz62_2
                try clear hcz62_3
                try clear hcz64_0
                try clear hcz64_1
                try clear hcz64_2
                try clear hcz64_3
                try clear hcz66_0
                try clear hcz66_1
                try clear hcz66_2
                try clear hcz66_3
                try clear hcz69_0
                try clear hcz69_1
                try clear hcz69_2
                try clear hcz69_3
                try clear hcz72_0
                try clear hcz72_1
                try clear hcz72_2
                try clear hcz72_3
                try clear hcz73_0
                try clear hcz73_1
                try clear hcz80_0
                try clear hcz80_1
                try clear hcz80_2
                try clear hcz80_3
                try clear hcz81_0
                try clear hcz81_1
                try clear hcz85_0
                try clear hcz85_1
                try clear hcz85_2
                try clear hcz85_3
                try clear hcz86_0
                try clear hcz86_1
                try clear hcz91_0
                try clear hcz91_1
                try clear hcz91_2
                try clear hcz91_3
                try clear hcz92_0
                try clear hcz92_1
                try clear hcz96_0
                try clear hcz96_1
                try clear hcz96_2
                try clear hcz96_3
                try clear hfz103_0
                try clear hfz103_1
                try clear hfz104_0
                try clear hfz104_1
                try clear hfz104_2
                try clear hfz104_3
                try clear hfz106_0
                try clear hfz106_1
                try clear hfz107_0
                try clear hfz107_1
                try clear hfz107_2
                try clear hfz107_3
                try clear hfz109_0
                try clear hfz109_1
                try clear hfz110_0
                try clear hfz110_1
                try clear hfz110_2
                try clear hfz110_3
                try clear hfz119_0
                try clear hfz119_1
                try clear hfz119_2
                try clear hfz119_3
                try clear hfz120_0
                try clear hfz120_1
                try clear hfz122_0
                try clear hfz122_1
                try clear hfz122_2
                try clear hfz122_3
                try clear hfz123_0
                try clear hfz123_1
                try clear hfz125_0
                try clear hfz125_1
                try clear hfz125_2
                try clear hfz125_3
                try clear hfz126_0
                try clear hfz126_1
                try clear hfz128_0
                try clear hfz128_1
                try clear hfz128_2
                try clear hfz128_3
                try clear hfz129_0
                try clear hfz129_1
                try clear hfz12_0
                try clear hfz12_1
                try clear hfz135_0
                try clear hfz135_1
                try clear hfz135_2
                try clear hfz135_3
                try clear hfz136_0
                try clear hfz136_1
                try clear hfz138_0
                try clear hfz138_1
                try clear hfz138_2
                try clear hfz138_3
                try clear hfz139_0
                try clear hfz139_1
                try clear hfz141_0
                try clear hfz141_1
                try clear hfz141_2
                try clear hfz141_3
                try clear hfz142_0
                try clear hfz142_1
                try clear hfz19_0
                try clear hfz19_1
                try clear hfz22_0
                try clear hfz22_1
                try clear hfz22_2
                try clear hfz22_3
                try clear hfz25_0
                try clear hfz25_1
                try clear hfz25_2
                try clear hfz25_3
                try clear hfz28_0
                try clear hfz28_1
                try clear hfz28_2
                try clear hfz28_3
                try clear hfz31_0
                try clear hfz31_1
                try clear hfz31_2
                try clear hfz31_3
                try clear hfz33_0
                try clear hfz33_1
                try clear hfz33_2
                try clear hfz33_3
                try clear hfz42_0
                try clear hfz42_1
                try clear hfz42_2
                try clear hfz42_3
                try clear hfz43_0
                try clear hfz43_1
                try clear hfz45_0
                try clear hfz45_1
                try clear hfz45_2
                try clear hfz45_3
                try clear hfz47_0
                try clear hfz47_1
                try clear hfz47_2
                try clear hfz47_3
                try clear hfz52_0
                try clear hfz52_1
                try clear hfz53_0
                try clear hfz53_1
                try clear hfz53_2
                try clear hfz53_3
                try clear hfz57_0
                try clear hfz57_1
                try clear hfz57_2
                try clear hfz57_3
                try clear hfz62_0
                try clear hfz62_1
                try clear hfz62_2
                try clear hfz62_3
                try clear hfz64_0
                try clear hfz64_1
                try clear hfz64_2
                try clear hfz64_3
                try clear hfz66_0
                try clear hfz66_1
                try clear hfz66_2
                try clear hfz66_3
                try clear hfz69_0
                try clear hfz69_1
                try clear hfz69_2
                try clear hfz69_3
                try clear hfz72_0
                try clear hfz72_1
                try clear hfz72_2
                try clear hfz72_3
                try clear hfz73_0
                try clear hfz73_1
                try clear hfz80_0
                try clear hfz80_1
                try clear hfz80_2
                try clear hfz80_3
                try clear hfz81_0
                try clear hfz81_1
                try clear hfz85_0
                try clear hfz85_1
                try clear hfz85_2
                try clear hfz85_3
                try clear hfz86_0
                try clear hfz86_1
                try clear hfz91_0
                try clear hfz91_1
                try clear hfz91_2
                try clear hfz91_3
                try clear hfz92_0
                try clear hfz92_1
                try clear hfz96_0
                try clear hfz96_1
                try clear hfz96_2
                try clear hfz96_3
                try clear hx180_0
                try clear hx180_1
                try clear hx180_2
                try clear hx180_3
                try clear hx182_0
                try clear hx182_1
                try clear hx182_2
                try clear hx182_3
                try clear hx183_0
                try clear hx183_1
                try clear hx183_2
                try clear hx183_3
                try clear hx186_0
                try clear hx186_1
                try clear hx186_2
                try clear hx186_3
                try clear hx187_0
                try clear hx187_1
                try clear hx187_2
                try clear hx187_3
                try clear hx188_0
                try clear hx188_1
                try clear hx188_2
                try clear hx188_3
                try clear hx189_0
                try clear hx189_1
                try clear hx189_2
                try clear hx189_3
                try clear hx78_0
                try clear hx89_0
                try clear p1
                try clear p18
                try clear p180
                try clear p182
                try clear p183
                try clear p186
                try clear p187
                try clear p188
                try clear p189
                try clear p2
                try clear p6
                try clear p7
                try clear p78
                try clear p8
                try clear p89
                try clear q1
                try clear q18
                try clear q180
                try clear q182
                try clear q183
                try clear q186
                try clear q187
                try clear q188
                try clear q189
                try clear q7
                try clear q78
                try clear q8
                try clear q89
                obtain ⟨x11_2, rfl, HA, HK2, HO_6, HO_177000, HO_177001, BK176, HB⟩ := hrel
                cases gk with
                | zero => exact absurd HA.out (by simp [topiarylaw13_ParserStands.l2])
                | succ k2 =>
                  have H := HA.out
                  clear HA
                  simp only [topiarylaw13_ParserStands.l2] at H
                  by_cases c143 : x11_2 < (x6_1.length : Int)
                  · rw [if_pos c143] at H
                    have c143b0 : decide (x11_2 < (x6_1.length : Int)) = true := decide_eq_true c143
                    clear c143
                    by_cases c144 : 0 ≤ x11_2
                    · rw [if_pos c144] at H
                      have c144b0 : decide (0 ≤ x11_2) = true := decide_eq_true c144
                      clear c144
                      by_cases c145 : x11_2 < (t169.length : Int)
                      · rw [if_pos c145] at H
                        have c145b0 : decide (x11_2 < (t169.length : Int)) = true := decide_eq_true c145
                        clear c145
                        replace H := Option.bind_eq_some_iff.mp H
                        obtain ⟨t191, A1460, H⟩ := H
                        replace H : (if rdOf false x6_1 x11_2 = true then (if (t191 = ((rdOf ByteArray.empty t169 x11_2).size : Int)) then (if x11_2 > 0 then (if 0 ≤ (wrap64 (x11_2 - 1)) then (if (wrap64 (x11_2 - 1)) < (t169.length : Int) then (if ((Op.bytesLess ((rdOf ByteArray.empty t169 (wrap64 (x11_2 - 1))).toList) ((rdOf ByteArray.empty t169 x11_2).toList)) = true) then (topiarylaw13_ParserStands.l2 k2 t167 x6_1 (wrap64 (x11_2 + 1)) t169 t172) else (some false)) else (none)) else (none)) else (topiarylaw13_ParserStands.l2 k2 t167 x6_1 (wrap64 (x11_2 + 1)) t169 t172)) else (some false)) else (some false)) = some r := H
                        have A146 := Aside0.mk A1460
                        clear A1460
                        obtain ⟨bq147, hbq147⟩ : ∃ b_ : Bool, b_ = (rdOf false x6_1 x11_2) := ⟨_, rfl⟩
                        replace H : (if bq147 = true then (if (t191 = ((rdOf ByteArray.empty t169 x11_2).size : Int)) then (if x11_2 > 0 then (if 0 ≤ (wrap64 (x11_2 - 1)) then (if (wrap64 (x11_2 - 1)) < (t169.length : Int) then (if ((Op.bytesLess ((rdOf ByteArray.empty t169 (wrap64 (x11_2 - 1))).toList) ((rdOf ByteArray.empty t169 x11_2).toList)) = true) then (topiarylaw13_ParserStands.l2 k2 t167 x6_1 (wrap64 (x11_2 + 1)) t169 t172) else (some false)) else (none)) else (none)) else (topiarylaw13_ParserStands.l2 k2 t167 x6_1 (wrap64 (x11_2 + 1)) t169 t172)) else (some false)) else (some false)) = some r := by rw [← hbq147] at H; exact H
                        have Nbq147 := Aside0.mk hbq147
                        clear hbq147
                        by_cases c148 : bq147 = true
                        · subst c148
                          have H1 : (if (t191 = ((rdOf ByteArray.empty t169 x11_2).size : Int)) then (if x11_2 > 0 then (if 0 ≤ (wrap64 (x11_2 - 1)) then (if (wrap64 (x11_2 - 1)) < (t169.length : Int) then (if ((Op.bytesLess ((rdOf ByteArray.empty t169 (wrap64 (x11_2 - 1))).toList) ((rdOf ByteArray.empty t169 x11_2).toList)) = true) then (topiarylaw13_ParserStands.l2 k2 t167 x6_1 (wrap64 (x11_2 + 1)) t169 t172) else (some false)) else (none)) else (none)) else (topiarylaw13_ParserStands.l2 k2 t167 x6_1 (wrap64 (x11_2 + 1)) t169 t172)) else (some false)) = some r := by rw [if_pos rfl] at H; exact H
                          clear H
                          have H := H1
                          clear H1
                          by_cases c149 : (t191 = ((rdOf ByteArray.empty t169 x11_2).size : Int))
                          · rw [if_pos c149] at H
                            have c149b0 : (t191 == ((rdOf ByteArray.empty t169 x11_2).size : Int)) = true := beq_iff_eq.mpr c149
                            have c149b1 : (t191 != ((rdOf ByteArray.empty t169 x11_2).size : Int)) = false := bne_eq_false_iff_eq.mpr c149
                            clear c149
                            by_cases c150 : x11_2 > 0
                            · rw [if_pos c150] at H
                              have c150b0 : decide (0 < x11_2) = true := decide_eq_true c150
                              clear c150
                              obtain ⟨ji151, hji151⟩ : ∃ j_ : Int, (wrap64 (x11_2 - 1)) = j_ := ⟨_, rfl⟩
                              replace H : (if 0 ≤ (ji151) then (if (ji151) < (t169.length : Int) then (if ((Op.bytesLess ((rdOf ByteArray.empty t169 (ji151)).toList) ((rdOf ByteArray.empty t169 x11_2).toList)) = true) then (topiarylaw13_ParserStands.l2 k2 t167 x6_1 (wrap64 (x11_2 + 1)) t169 t172) else (some false)) else (none)) else (none)) = some r := by first | (rw [hji151] at H; exact H) | (simp only [hji151] at H ⊢; exact H)
                              (try rw [hji151] at A146)
                              have hji151w : (IntKind.i64.wrap (x11_2 - 1)) = ji151 := (i64_w _).trans hji151
                              by_cases c152 : 0 ≤ (ji151)
                              · rw [if_pos c152] at H
                                have c152b0 : decide (0 ≤ (ji151)) = true := decide_eq_true c152
                                clear c152
                                by_cases c153 : (ji151) < (t169.length : Int)
                                · rw [if_pos c153] at H
                                  have c153b0 : decide ((ji151) < (t169.length : Int)) = true := decide_eq_true c153
                                  clear c153
                                  by_cases c154 : ((Op.bytesLess ((rdOf ByteArray.empty t169 (ji151)).toList) ((rdOf ByteArray.empty t169 x11_2).toList)) = true)
                                  · rw [if_pos c154] at H
                                    have c154b0 : (Op.bytesLess ((rdOf ByteArray.empty t169 (ji151)).toList) ((rdOf ByteArray.empty t169 x11_2).toList)) = true := c154
                                    clear c154
                                    have H' := Aside0.mk H
                                    clear H
                                    obtain ⟨Ao155, co155, eo155⟩ := Kd.R_slice HO_6.out
                                    subst eo155
                                    have hcz156_0 : wr.cell? ⟨gb176, 0, none⟩ = some (.slice Ao11 t169.length co11) := (blk_cell BK176.out 0).trans rfl
                                    have hcz156_1 : wr.cell? ⟨gb176, 1, none⟩ = some (.slice Ao13 t172.length co13) := (blk_cell BK176.out 1).trans rfl
                                    have hfz156_0 := blk_frozen BK176.out 0
                                    have hfz156_1 := blk_frozen BK176.out 1
                                    have p190 : 0 ≤ (x11_2 : Int) := of_decide_eq_true (by first | (with_reducible assumption) | assumption)
                                    have q190 : x11_2 < (t169.length : Int) := of_decide_eq_true (by first | (with_reducible assumption) | assumption)
                                    obtain ⟨ad190, e190, hx190_0⟩ := Kd.at_string (Kd.R_reads' HO_177000.out).2.2 x11_2 p190 q190
                                    cases e190
                                    replace p190 := eq_true p190
                                    replace q190 := eq_true q190
                                    go_wp2_with (first | (go_at_call 10; (with_reducible refine (topiaryref11_NameEnd.calls k2 (rdOf ByteArray.empty t169 x11_2) 0 t191 _ A146.out).mono ?_); rintro e w' ⟨rfl, ⟨nd, rfl⟩⟩; (try first | exact ⟨rfl, _, World.drewN_drewN _ _ _⟩ | exact ⟨rfl, _, Eq.trans (World.drewN_drewN _ _ _) (congrArg (World.drewN _) (Nat.add_assoc _ _ _))⟩); have p192 : 0 ≤ (x11_2 : Int) := of_decide_eq_true (by first | (with_reducible assumption) | assumption); have q192 : x11_2 < (t169.length : Int) := of_decide_eq_true (by first | (with_reducible assumption) | assumption); obtain ⟨ad192, e192, hx192_0⟩ := Kd.at_string (Kd.R_reads' HO_177000.out).2.2 x11_2 p192 q192; obtain rfl : ad190 = ad192 := (by injection e192); replace p192 := eq_true p192; replace q192 := eq_true q192; have p193 : 0 ≤ (x11_2 : Int) := of_decide_eq_true (by first | (with_reducible assumption) | assumption); have q193 : x11_2 < (x6_1.length : Int) := of_decide_eq_true (by first | (with_reducible assumption) | assumption); obtain ⟨ad193, e193, hx193_0⟩ := Kd.at_bool (Kd.R_reads' HO_6.out).2.2 x11_2 p193 q193; (try rw [← Nbq147.out] at hx193_0); cases e193; replace p193 := eq_true p193; replace q193 := eq_true q193; have p194 : 0 ≤ ((ji151) : Int) := of_decide_eq_true (by first | (with_reducible assumption) | assumption); have q194 : (ji151) < (t169.length : Int) := of_decide_eq_true (by first | (with_reducible assumption) | assumption); obtain ⟨ad194, e194, hx194_0⟩ := Kd.at_string (Kd.R_reads' HO_177000.out).2.2 (ji151) p194 q194; obtain rfl : ad190 = ad194 := (by injection e194); replace p194 := eq_true p194; replace q194 := eq_true q194; have p195 : 0 ≤ (x11_2 : Int) := of_decide_eq_true (by first | (with_reducible assumption) | assumption); have q195 : x11_2 < (t169.length : Int) := of_decide_eq_true (by first | (with_reducible assumption) | assumption); obtain ⟨ad195, e195, hx195_0⟩ := Kd.at_string (Kd.R_reads' HO_177000.out).2.2 x11_2 p195 q195; obtain rfl : ad190 = ad195 := (by injection e195); replace p195 := eq_true p195; replace q195 := eq_true q195))
                                    repeat (go_quiet (first | (go_at_call 10; (with_reducible refine (topiaryref11_NameEnd.calls k2 (rdOf ByteArray.empty t169 x11_2) 0 t191 _ A146.out).mono ?_); rintro e w' ⟨rfl, ⟨nd, rfl⟩⟩; (try first | exact ⟨rfl, _, World.drewN_drewN _ _ _⟩ | exact ⟨rfl, _, Eq.trans (World.drewN_drewN _ _ _) (congrArg (World.drewN _) (Nat.add_assoc _ _ _))⟩); have p192 : 0 ≤ (x11_2 : Int) := of_decide_eq_true (by first | (with_reducible assumption) | assumption); have q192 : x11_2 < (t169.length : Int) := of_decide_eq_true (by first | (with_reducible assumption) | assumption); obtain ⟨ad192, e192, hx192_0⟩ := Kd.at_string (Kd.R_reads' HO_177000.out).2.2 x11_2 p192 q192; obtain rfl : ad190 = ad192 := (by injection e192); replace p192 := eq_true p192; replace q192 := eq_true q192; have p193 : 0 ≤ (x11_2 : Int) := of_decide_eq_true (by first | (with_reducible assumption) | assumption); have q193 : x11_2 < (x6_1.length : Int) := of_decide_eq_true (by first | (with_reducible assumption) | assumption); obtain ⟨ad193, e193, hx193_0⟩ := Kd.at_bool (Kd.R_reads' HO_6.out).2.2 x11_2 p193 q193; (try rw [← Nbq147.out] at hx193_0); cases e193; replace p193 := eq_true p193; replace q193 := eq_true q193; have p194 : 0 ≤ ((ji151) : Int) := of_decide_eq_true (by first | (with_reducible assumption) | assumption); have q194 : (ji151) < (t169.length : Int) := of_decide_eq_true (by first | (with_reducible assumption) | assumption); obtain ⟨ad194, e194, hx194_0⟩ := Kd.at_string (Kd.R_reads' HO_177000.out).2.2 (ji151) p194 q194; obtain rfl : ad190 = ad194 := (by injection e194); replace p194 := eq_true p194; replace q194 := eq_true q194; have p195 : 0 ≤ (x11_2 : Int) := of_decide_eq_true (by first | (with_reducible assumption) | assumption); have q195 : x11_2 < (t169.length : Int) := of_decide_eq_true (by first | (with_reducible assumption) | assumption); obtain ⟨ad195, e195, hx195_0⟩ := Kd.at_string (Kd.R_reads' HO_177000.out).2.2 x11_2 p195 q195; obtain rfl : ad190 = ad195 := (by injection e195); replace p195 := eq_true p195; replace q195 := eq_true q195)); try go_wp2_with (first | (go_at_call 10; (with_reducible refine (topiaryref11_NameEnd.calls k2 (rdOf ByteArray.empty t169 x11_2) 0 t191 _ A146.out).mono ?_); rintro e w' ⟨rfl, ⟨nd, rfl⟩⟩; (try first | exact ⟨rfl, _, World.drewN_drewN _ _ _⟩ | exact ⟨rfl, _, Eq.trans (World.drewN_drewN _ _ _) (congrArg (World.drewN _) (Nat.add_assoc _ _ _))⟩); have p192 : 0 ≤ (x11_2 : Int) := of_decide_eq_true (by first | (with_reducible assumption) | assumption); have q192 : x11_2 < (t169.length : Int) := of_decide_eq_true (by first | (with_reducible assumption) | assumption); obtain ⟨ad192, e192, hx192_0⟩ := Kd.at_string (Kd.R_reads' HO_177000.out).2.2 x11_2 p192 q192; obtain rfl : ad190 = ad192 := (by injection e192); replace p192 := eq_true p192; replace q192 := eq_true q192; have p193 : 0 ≤ (x11_2 : Int) := of_decide_eq_true (by first | (with_reducible assumption) | assumption); have q193 : x11_2 < (x6_1.length : Int) := of_decide_eq_true (by first | (with_reducible assumption) | assumption); obtain ⟨ad193, e193, hx193_0⟩ := Kd.at_bool (Kd.R_reads' HO_6.out).2.2 x11_2 p193 q193; (try rw [← Nbq147.out] at hx193_0); cases e193; replace p193 := eq_true p193; replace q193 := eq_true q193; have p194 : 0 ≤ ((ji151) : Int) := of_decide_eq_true (by first | (with_reducible assumption) | assumption); have q194 : (ji151) < (t169.length : Int) := of_decide_eq_true (by first | (with_reducible assumption) | assumption); obtain ⟨ad194, e194, hx194_0⟩ := Kd.at_string (Kd.R_reads' HO_177000.out).2.2 (ji151) p194 q194; obtain rfl : ad190 = ad194 := (by injection e194); replace p194 := eq_true p194; replace q194 := eq_true q194; have p195 : 0 ≤ (x11_2 : Int) := of_decide_eq_true (by first | (with_reducible assumption) | assumption); have q195 : x11_2 < (t169.length : Int) := of_decide_eq_true (by first | (with_reducible assumption) | assumption); obtain ⟨ad195, e195, hx195_0⟩ := Kd.at_string (Kd.R_reads' HO_177000.out).2.2 x11_2 p195 q195; obtain rfl : ad190 = ad195 := (by injection e195); replace p195 := eq_true p195; replace q195 := eq_true q195)))
                                    go_roundg k2
                                    case measure => have := HK1.out; have := HK2.out; omega
                                    case rel => exact ⟨(wrap64 (x11_2 + 1)), (by first | rfl | (simp; done) | (simp [*]; done)), H', ⟨by have := HK1.out; have := HK2.out; omega⟩, ⟨by (with_reducible repeat (first | apply Kd.R_alloc | apply Kd.R_drewN | apply Kd.R_drew)); exact HO_6.out⟩, ⟨by (with_reducible repeat (first | apply Kd.R_alloc | apply Kd.R_drewN | apply Kd.R_drew)); exact HO_177000.out⟩, ⟨by (with_reducible repeat (first | apply Kd.R_alloc | apply Kd.R_drewN | apply Kd.R_drew)); exact HO_177001.out⟩, ⟨by (with_reducible repeat (first | refine blk_drewN ?_ _ | refine blk_drew ?_ | refine blk_alloc ?_ _)); exact BK176.out⟩, ⟨by repeat (first | (with_reducible first | exact HB.out | apply below_alloc | apply pw_below_drewN | apply below_drew1 | refine below_set ?_ GE176.out) | exact HB.out)⟩⟩
                                  · rw [if_neg c154] at H
                                    have c154b0 : (Op.bytesLess ((rdOf ByteArray.empty t169 (ji151)).toList) ((rdOf ByteArray.empty t169 x11_2).toList)) = false := by simpa using c154
                                    clear c154
                                    obtain rfl := Option.some.inj H
                                    obtain ⟨Ao157, co157, eo157⟩ := Kd.R_slice HO_6.out
                                    subst eo157
                                    have hcz158_0 : wr.cell? ⟨gb176, 0, none⟩ = some (.slice Ao11 t169.length co11) := (blk_cell BK176.out 0).trans rfl
                                    have hcz158_1 : wr.cell? ⟨gb176, 1, none⟩ = some (.slice Ao13 t172.length co13) := (blk_cell BK176.out 1).trans rfl
                                    have hfz158_0 := blk_frozen BK176.out 0
                                    have hfz158_1 := blk_frozen BK176.out 1
                                    have p190 : 0 ≤ (x11_2 : Int) := of_decide_eq_true (by first | (with_reducible assumption) | assumption)
                                    have q190 : x11_2 < (t169.length : Int) := of_decide_eq_true (by first | (with_reducible assumption) | assumption)
                                    obtain ⟨ad190, e190, hx190_0⟩ := Kd.at_string (Kd.R_reads' HO_177000.out).2.2 x11_2 p190 q190
                                    cases e190
                                    replace p190 := eq_true p190
                                    replace q190 := eq_true q190
                                    go_wp2_with (first | (go_at_call 10; (with_reducible refine (topiaryref11_NameEnd.calls k2 (rdOf ByteArray.empty t169 x11_2) 0 t191 _ A146.out).mono ?_); rintro e w' ⟨rfl, ⟨nd, rfl⟩⟩; (try first | exact ⟨rfl, _, World.drewN_drewN _ _ _⟩ | exact ⟨rfl, _, Eq.trans (World.drewN_drewN _ _ _) (congrArg (World.drewN _) (Nat.add_assoc _ _ _))⟩); have p192 : 0 ≤ (x11_2 : Int) := of_decide_eq_true (by first | (with_reducible assumption) | assumption); have q192 : x11_2 < (t169.length : Int) := of_decide_eq_true (by first | (with_reducible assumption) | assumption); obtain ⟨ad192, e192, hx192_0⟩ := Kd.at_string (Kd.R_reads' HO_177000.out).2.2 x11_2 p192 q192; obtain rfl : ad190 = ad192 := (by injection e192); replace p192 := eq_true p192; replace q192 := eq_true q192; have p193 : 0 ≤ (x11_2 : Int) := of_decide_eq_true (by first | (with_reducible assumption) | assumption); have q193 : x11_2 < (x6_1.length : Int) := of_decide_eq_true (by first | (with_reducible assumption) | assumption); obtain ⟨ad193, e193, hx193_0⟩ := Kd.at_bool (Kd.R_reads' HO_6.out).2.2 x11_2 p193 q193; (try rw [← Nbq147.out] at hx193_0); cases e193; replace p193 := eq_true p193; replace q193 := eq_true q193; have p194 : 0 ≤ ((ji151) : Int) := of_decide_eq_true (by first | (with_reducible assumption) | assumption); have q194 : (ji151) < (t169.length : Int) := of_decide_eq_true (by first | (with_reducible assumption) | assumption); obtain ⟨ad194, e194, hx194_0⟩ := Kd.at_string (Kd.R_reads' HO_177000.out).2.2 (ji151) p194 q194; obtain rfl : ad190 = ad194 := (by injection e194); replace p194 := eq_true p194; replace q194 := eq_true q194; have p195 : 0 ≤ (x11_2 : Int) := of_decide_eq_true (by first | (with_reducible assumption) | assumption); have q195 : x11_2 < (t169.length : Int) := of_decide_eq_true (by first | (with_reducible assumption) | assumption); obtain ⟨ad195, e195, hx195_0⟩ := Kd.at_string (Kd.R_reads' HO_177000.out).2.2 x11_2 p195 q195; obtain rfl : ad190 = ad195 := (by injection e195); replace p195 := eq_true p195; replace q195 := eq_true q195))
                                    repeat (go_quiet (first | (go_at_call 10; (with_reducible refine (topiaryref11_NameEnd.calls k2 (rdOf ByteArray.empty t169 x11_2) 0 t191 _ A146.out).mono ?_); rintro e w' ⟨rfl, ⟨nd, rfl⟩⟩; (try first | exact ⟨rfl, _, World.drewN_drewN _ _ _⟩ | exact ⟨rfl, _, Eq.trans (World.drewN_drewN _ _ _) (congrArg (World.drewN _) (Nat.add_assoc _ _ _))⟩); have p192 : 0 ≤ (x11_2 : Int) := of_decide_eq_true (by first | (with_reducible assumption) | assumption); have q192 : x11_2 < (t169.length : Int) := of_decide_eq_true (by first | (with_reducible assumption) | assumption); obtain ⟨ad192, e192, hx192_0⟩ := Kd.at_string (Kd.R_reads' HO_177000.out).2.2 x11_2 p192 q192; obtain rfl : ad190 = ad192 := (by injection e192); replace p192 := eq_true p192; replace q192 := eq_true q192; have p193 : 0 ≤ (x11_2 : Int) := of_decide_eq_true (by first | (with_reducible assumption) | assumption); have q193 : x11_2 < (x6_1.length : Int) := of_decide_eq_true (by first | (with_reducible assumption) | assumption); obtain ⟨ad193, e193, hx193_0⟩ := Kd.at_bool (Kd.R_reads' HO_6.out).2.2 x11_2 p193 q193; (try rw [← Nbq147.out] at hx193_0); cases e193; replace p193 := eq_true p193; replace q193 := eq_true q193; have p194 : 0 ≤ ((ji151) : Int) := of_decide_eq_true (by first | (with_reducible assumption) | assumption); have q194 : (ji151) < (t169.length : Int) := of_decide_eq_true (by first | (with_reducible assumption) | assumption); obtain ⟨ad194, e194, hx194_0⟩ := Kd.at_string (Kd.R_reads' HO_177000.out).2.2 (ji151) p194 q194; obtain rfl : ad190 = ad194 := (by injection e194); replace p194 := eq_true p194; replace q194 := eq_true q194; have p195 : 0 ≤ (x11_2 : Int) := of_decide_eq_true (by first | (with_reducible assumption) | assumption); have q195 : x11_2 < (t169.length : Int) := of_decide_eq_true (by first | (with_reducible assumption) | assumption); obtain ⟨ad195, e195, hx195_0⟩ := Kd.at_string (Kd.R_reads' HO_177000.out).2.2 x11_2 p195 q195; obtain rfl : ad190 = ad195 := (by injection e195); replace p195 := eq_true p195; replace q195 := eq_true q195)); try go_wp2_with (first | (go_at_call 10; (with_reducible refine (topiaryref11_NameEnd.calls k2 (rdOf ByteArray.empty t169 x11_2) 0 t191 _ A146.out).mono ?_); rintro e w' ⟨rfl, ⟨nd, rfl⟩⟩; (try first | exact ⟨rfl, _, World.drewN_drewN _ _ _⟩ | exact ⟨rfl, _, Eq.trans (World.drewN_drewN _ _ _) (congrArg (World.drewN _) (Nat.add_assoc _ _ _))⟩); have p192 : 0 ≤ (x11_2 : Int) := of_decide_eq_true (by first | (with_reducible assumption) | assumption); have q192 : x11_2 < (t169.length : Int) := of_decide_eq_true (by first | (with_reducible assumption) | assumption); obtain ⟨ad192, e192, hx192_0⟩ := Kd.at_string (Kd.R_reads' HO_177000.out).2.2 x11_2 p192 q192; obtain rfl : ad190 = ad192 := (by injection e192); replace p192 := eq_true p192; replace q192 := eq_true q192; have p193 : 0 ≤ (x11_2 : Int) := of_decide_eq_true (by first | (with_reducible assumption) | assumption); have q193 : x11_2 < (x6_1.length : Int) := of_decide_eq_true (by first | (with_reducible assumption) | assumption); obtain ⟨ad193, e193, hx193_0⟩ := Kd.at_bool (Kd.R_reads' HO_6.out).2.2 x11_2 p193 q193; (try rw [← Nbq147.out] at hx193_0); cases e193; replace p193 := eq_true p193; replace q193 := eq_true q193; have p194 : 0 ≤ ((ji151) : Int) := of_decide_eq_true (by first | (with_reducible assumption) | assumption); have q194 : (ji151) < (t169.length : Int) := of_decide_eq_true (by first | (with_reducible assumption) | assumption); obtain ⟨ad194, e194, hx194_0⟩ := Kd.at_string (Kd.R_reads' HO_177000.out).2.2 (ji151) p194 q194; obtain rfl : ad190 = ad194 := (by injection e194); replace p194 := eq_true p194; replace q194 := eq_true q194; have p195 : 0 ≤ (x11_2 : Int) := of_decide_eq_true (by first | (with_reducible assumption) | assumption); have q195 : x11_2 < (t169.length : Int) := of_decide_eq_true (by first | (with_reducible assumption) | assumption); obtain ⟨ad195, e195, hx195_0⟩ := Kd.at_string (Kd.R_reads' HO_177000.out).2.2 x11_2 p195 q195; obtain rfl : ad190 = ad195 := (by injection e195); replace p195 := eq_true p195; replace q195 := eq_true q195)))
                                    go_ret
                                    exact ⟨by first | rfl | (simp [errW_none, errW_some] <;> rfl) | (simp only [← hji151]; first | rfl | (simp [errW_none, errW_some] <;> rfl)) | (simp [*, errW_none, errW_some] <;> rfl), by repeat (first | (with_reducible first | exact HB.out | apply below_alloc | apply pw_below_drewN | apply below_drew1 | refine below_set ?_ GE176.out) | exact HB.out)⟩
                                · rw [if_neg c153] at H
                                  exact absurd H (by simp)
                              · rw [if_neg c152] at H
                                exact absurd H (by simp)
                            · rw [if_neg c150] at H
                              have c150b0 : decide (0 < x11_2) = false := decide_eq_false c150
                              clear c150
                              have H' := Aside0.mk H
                              clear H
                              obtain ⟨Ao159, co159, eo159⟩ := Kd.R_slice HO_6.out
                              subst eo159
                              have hcz160_0 : wr.cell? ⟨gb176, 0, none⟩ = some (.slice Ao11 t169.length co11) := (blk_cell BK176.out 0).trans rfl
                              have hcz160_1 : wr.cell? ⟨gb176, 1, none⟩ = some (.slice Ao13 t172.length co13) := (blk_cell BK176.out 1).trans rfl
                              have hfz160_0 := blk_frozen BK176.out 0
                              have hfz160_1 := blk_frozen BK176.out 1
                              have p190 : 0 ≤ (x11_2 : Int) := of_decide_eq_true (by first | (with_reducible assumption) | assumption)
                              have q190 : x11_2 < (t169.length : Int) := of_decide_eq_true (by first | (with_reducible assumption) | assumption)
                              obtain ⟨ad190, e190, hx190_0⟩ := Kd.at_string (Kd.R_reads' HO_177000.out).2.2 x11_2 p190 q190
                              cases e190
                              replace p190 := eq_true p190
                              replace q190 := eq_true q190
                              go_wp2_with (first | (go_at_call 10; (with_reducible refine (topiaryref11_NameEnd.calls k2 (rdOf ByteArray.empty t169 x11_2) 0 t191 _ A146.out).mono ?_); rintro e w' ⟨rfl, ⟨nd, rfl⟩⟩; (try first | exact ⟨rfl, _, World.drewN_drewN _ _ _⟩ | exact ⟨rfl, _, Eq.trans (World.drewN_drewN _ _ _) (congrArg (World.drewN _) (Nat.add_assoc _ _ _))⟩); have p192 : 0 ≤ (x11_2 : Int) := of_decide_eq_true (by first | (with_reducible assumption) | assumption); have q192 : x11_2 < (t169.length : Int) := of_decide_eq_true (by first | (with_reducible assumption) | assumption); obtain ⟨ad192, e192, hx192_0⟩ := Kd.at_string (Kd.R_reads' HO_177000.out).2.2 x11_2 p192 q192; obtain rfl : ad190 = ad192 := (by injection e192); replace p192 := eq_true p192; replace q192 := eq_true q192; have p193 : 0 ≤ (x11_2 : Int) := of_decide_eq_true (by first | (with_reducible assumption) | assumption); have q193 : x11_2 < (x6_1.length : Int) := of_decide_eq_true (by first | (with_reducible assumption) | assumption); obtain ⟨ad193, e193, hx193_0⟩ := Kd.at_bool (Kd.R_reads' HO_6.out).2.2 x11_2 p193 q193; (try rw [← Nbq147.out] at hx193_0); cases e193; replace p193 := eq_true p193; replace q193 := eq_true q193))
                              repeat (go_quiet (first | (go_at_call 10; (with_reducible refine (topiaryref11_NameEnd.calls k2 (rdOf ByteArray.empty t169 x11_2) 0 t191 _ A146.out).mono ?_); rintro e w' ⟨rfl, ⟨nd, rfl⟩⟩; (try first | exact ⟨rfl, _, World.drewN_drewN _ _ _⟩ | exact ⟨rfl, _, Eq.trans (World.drewN_drewN _ _ _) (congrArg (World.drewN _) (Nat.add_assoc _ _ _))⟩); have p192 : 0 ≤ (x11_2 : Int) := of_decide_eq_true (by first | (with_reducible assumption) | assumption); have q192 : x11_2 < (t169.length : Int) := of_decide_eq_true (by first | (with_reducible assumption) | assumption); obtain ⟨ad192, e192, hx192_0⟩ := Kd.at_string (Kd.R_reads' HO_177000.out).2.2 x11_2 p192 q192; obtain rfl : ad190 = ad192 := (by injection e192); replace p192 := eq_true p192; replace q192 := eq_true q192; have p193 : 0 ≤ (x11_2 : Int) := of_decide_eq_true (by first | (with_reducible assumption) | assumption); have q193 : x11_2 < (x6_1.length : Int) := of_decide_eq_true (by first | (with_reducible assumption) | assumption); obtain ⟨ad193, e193, hx193_0⟩ := Kd.at_bool (Kd.R_reads' HO_6.out).2.2 x11_2 p193 q193; (try rw [← Nbq147.out] at hx193_0); cases e193; replace p193 := eq_true p193; replace q193 := eq_true q193)); try go_wp2_with (first | (go_at_call 10; (with_reducible refine (topiaryref11_NameEnd.calls k2 (rdOf ByteArray.empty t169 x11_2) 0 t191 _ A146.out).mono ?_); rintro e w' ⟨rfl, ⟨nd, rfl⟩⟩; (try first | exact ⟨rfl, _, World.drewN_drewN _ _ _⟩ | exact ⟨rfl, _, Eq.trans (World.drewN_drewN _ _ _) (congrArg (World.drewN _) (Nat.add_assoc _ _ _))⟩); have p192 : 0 ≤ (x11_2 : Int) := of_decide_eq_true (by first | (with_reducible assumption) | assumption); have q192 : x11_2 < (t169.length : Int) := of_decide_eq_true (by first | (with_reducible assumption) | assumption); obtain ⟨ad192, e192, hx192_0⟩ := Kd.at_string (Kd.R_reads' HO_177000.out).2.2 x11_2 p192 q192; obtain rfl : ad190 = ad192 := (by injection e192); replace p192 := eq_true p192; replace q192 := eq_true q192; have p193 : 0 ≤ (x11_2 : Int) := of_decide_eq_true (by first | (with_reducible assumption) | assumption); have q193 : x11_2 < (x6_1.length : Int) := of_decide_eq_true (by first | (with_reducible assumption) | assumption); obtain ⟨ad193, e193, hx193_0⟩ := Kd.at_bool (Kd.R_reads' HO_6.out).2.2 x11_2 p193 q193; (try rw [← Nbq147.out] at hx193_0); cases e193; replace p193 := eq_true p193; replace q193 := eq_true q193)))
                              go_roundg k2
                              case measure => have := HK1.out; have := HK2.out; omega
                              case rel => exact ⟨(wrap64 (x11_2 + 1)), (by first | rfl | (simp; done) | (simp [*]; done)), H', ⟨by have := HK1.out; have := HK2.out; omega⟩, ⟨by (with_reducible repeat (first | apply Kd.R_alloc | apply Kd.R_drewN | apply Kd.R_drew)); exact HO_6.out⟩, ⟨by (with_reducible repeat (first | apply Kd.R_alloc | apply Kd.R_drewN | apply Kd.R_drew)); exact HO_177000.out⟩, ⟨by (with_reducible repeat (first | apply Kd.R_alloc | apply Kd.R_drewN | apply Kd.R_drew)); exact HO_177001.out⟩, ⟨by (with_reducible repeat (first | refine blk_drewN ?_ _ | refine blk_drew ?_ | refine blk_alloc ?_ _)); exact BK176.out⟩, ⟨by repeat (first | (with_reducible first | exact HB.out | apply below_alloc | apply pw_below_drewN | apply below_drew1 | refine below_set ?_ GE176.out) | exact HB.out)⟩⟩
                          · rw [if_neg c149] at H
                            have c149b0 : (t191 == ((rdOf ByteArray.empty t169 x11_2).size : Int)) = false := beq_eq_false_iff_ne.mpr c149
                            have c149b1 : (t191 != ((rdOf ByteArray.empty t169 x11_2).size : Int)) = true := bne_iff_ne.mpr c149
                            obtain rfl := Option.some.inj H
                            obtain ⟨Ao161, co161, eo161⟩ := Kd.R_slice HO_6.out
                            subst eo161
                            have hcz162_0 : wr.cell? ⟨gb176, 0, none⟩ = some (.slice Ao11 t169.length co11) := (blk_cell BK176.out 0).trans rfl
                            have hcz162_1 : wr.cell? ⟨gb176, 1, none⟩ = some (.slice Ao13 t172.length co13) := (blk_cell BK176.out 1).trans rfl
                            have hfz162_0 := blk_frozen BK176.out 0
                            have hfz162_1 := blk_frozen BK176.out 1
                            have p190 : 0 ≤ (x11_2 : Int) := of_decide_eq_true (by first | (with_reducible assumption) | assumption)
                            have q190 : x11_2 < (t169.length : Int) := of_decide_eq_true (by first | (with_reducible assumption) | assumption)
                            obtain ⟨ad190, e190, hx190_0⟩ := Kd.at_string (Kd.R_reads' HO_177000.out).2.2 x11_2 p190 q190
                            cases e190
                            replace p190 := eq_true p190
                            replace q190 := eq_true q190
                            go_wp2_with (first | (go_at_call 10; (with_reducible refine (topiaryref11_NameEnd.calls k2 (rdOf ByteArray.empty t169 x11_2) 0 t191 _ A146.out).mono ?_); rintro e w' ⟨rfl, ⟨nd, rfl⟩⟩; (try first | exact ⟨rfl, _, World.drewN_drewN _ _ _⟩ | exact ⟨rfl, _, Eq.trans (World.drewN_drewN _ _ _) (congrArg (World.drewN _) (Nat.add_assoc _ _ _))⟩); have p192 : 0 ≤ (x11_2 : Int) := of_decide_eq_true (by first | (with_reducible assumption) | assumption); have q192 : x11_2 < (t169.length : Int) := of_decide_eq_true (by first | (with_reducible assumption) | assumption); obtain ⟨ad192, e192, hx192_0⟩ := Kd.at_string (Kd.R_reads' HO_177000.out).2.2 x11_2 p192 q192; obtain rfl : ad190 = ad192 := (by injection e192); replace p192 := eq_true p192; replace q192 := eq_true q192; have p193 : 0 ≤ (x11_2 : Int) := of_decide_eq_true (by first | (with_reducible assumption) | assumption); have q193 : x11_2 < (x6_1.length : Int) := of_decide_eq_true (by first | (with_reducible assumption) | assumption); obtain ⟨ad193, e193, hx193_0⟩ := Kd.at_bool (Kd.R_reads' HO_6.out).2.2 x11_2 p193 q193; (try rw [← Nbq147.out] at hx193_0); cases e193; replace p193 := eq_true p193; replace q193 := eq_true q193))
                            repeat (go_quiet (first | (go_at_call 10; (with_reducible refine (topiaryref11_NameEnd.calls k2 (rdOf ByteArray.empty t169 x11_2) 0 t191 _ A146.out).mono ?_); rintro e w' ⟨rfl, ⟨nd, rfl⟩⟩; (try first | exact ⟨rfl, _, World.drewN_drewN _ _ _⟩ | exact ⟨rfl, _, Eq.trans (World.drewN_drewN _ _ _) (congrArg (World.drewN _) (Nat.add_assoc _ _ _))⟩); have p192 : 0 ≤ (x11_2 : Int) := of_decide_eq_true (by first | (with_reducible assumption) | assumption); have q192 : x11_2 < (t169.length : Int) := of_decide_eq_true (by first | (with_reducible assumption) | assumption); obtain ⟨ad192, e192, hx192_0⟩ := Kd.at_string (Kd.R_reads' HO_177000.out).2.2 x11_2 p192 q192; obtain rfl : ad190 = ad192 := (by injection e192); replace p192 := eq_true p192; replace q192 := eq_true q192; have p193 : 0 ≤ (x11_2 : Int) := of_decide_eq_true (by first | (with_reducible assumption) | assumption); have q193 : x11_2 < (x6_1.length : Int) := of_decide_eq_true (by first | (with_reducible assumption) | assumption); obtain ⟨ad193, e193, hx193_0⟩ := Kd.at_bool (Kd.R_reads' HO_6.out).2.2 x11_2 p193 q193; (try rw [← Nbq147.out] at hx193_0); cases e193; replace p193 := eq_true p193; replace q193 := eq_true q193)); try go_wp2_with (first | (go_at_call 10; (with_reducible refine (topiaryref11_NameEnd.calls k2 (rdOf ByteArray.empty t169 x11_2) 0 t191 _ A146.out).mono ?_); rintro e w' ⟨rfl, ⟨nd, rfl⟩⟩; (try first | exact ⟨rfl, _, World.drewN_drewN _ _ _⟩ | exact ⟨rfl, _, Eq.trans (World.drewN_drewN _ _ _) (congrArg (World.drewN _) (Nat.add_assoc _ _ _))⟩); have p192 : 0 ≤ (x11_2 : Int) := of_decide_eq_true (by first | (with_reducible assumption) | assumption); have q192 : x11_2 < (t169.length : Int) := of_decide_eq_true (by first | (with_reducible assumption) | assumption); obtain ⟨ad192, e192, hx192_0⟩ := Kd.at_string (Kd.R_reads' HO_177000.out).2.2 x11_2 p192 q192; obtain rfl : ad190 = ad192 := (by injection e192); replace p192 := eq_true p192; replace q192 := eq_true q192; have p193 : 0 ≤ (x11_2 : Int) := of_decide_eq_true (by first | (with_reducible assumption) | assumption); have q193 : x11_2 < (x6_1.length : Int) := of_decide_eq_true (by first | (with_reducible assumption) | assumption); obtain ⟨ad193, e193, hx193_0⟩ := Kd.at_bool (Kd.R_reads' HO_6.out).2.2 x11_2 p193 q193; (try rw [← Nbq147.out] at hx193_0); cases e193; replace p193 := eq_true p193; replace q193 := eq_true q193)))
                            go_ret
                            exact ⟨by first | rfl | (simp [errW_none, errW_some] <;> rfl) | (simp [*, errW_none, errW_some] <;> rfl), by repeat (first | (with_reducible first | exact HB.out | apply below_alloc | apply pw_below_drewN | apply below_drew1 | refine below_set ?_ GE176.out) | exact HB.out)⟩
                        · replace c148 := Bool.eq_false_iff.mpr c148
                          subst c148
                          have H1 : (some false) = some r := by rw [if_neg (show ¬ (false = true) by decide)] at H; exact H
                          clear H
                          have H := H1
                          clear H1
                          obtain rfl := Option.some.inj H
                          obtain ⟨Ao163, co163, eo163⟩ := Kd.R_slice HO_6.out
                          subst eo163
                          have hcz164_0 : wr.cell? ⟨gb176, 0, none⟩ = some (.slice Ao11 t169.length co11) := (blk_cell BK176.out 0).trans rfl
                          have hcz164_1 : wr.cell? ⟨gb176, 1, none⟩ = some (.slice Ao13 t172.length co13) := (blk_cell BK176.out 1).trans rfl
                          have hfz164_0 := blk_frozen BK176.out 0
                          have hfz164_1 := blk_frozen BK176.out 1
                          have p190 : 0 ≤ (x11_2 : Int) := of_decide_eq_true (by first | (with_reducible assumption) | assumption)
                          have q190 : x11_2 < (t169.length : Int) := of_decide_eq_true (by first | (with_reducible assumption) | assumption)
                          obtain ⟨ad190, e190, hx190_0⟩ := Kd.at_string (Kd.R_reads' HO_177000.out).2.2 x11_2 p190 q190
                          cases e190
                          replace p190 := eq_true p190
                          replace q190 := eq_true q190
                          go_wp2_with (first | (go_at_call 10; (with_reducible refine (topiaryref11_NameEnd.calls k2 (rdOf ByteArray.empty t169 x11_2) 0 t191 _ A146.out).mono ?_); rintro e w' ⟨rfl, ⟨nd, rfl⟩⟩; (try first | exact ⟨rfl, _, World.drewN_drewN _ _ _⟩ | exact ⟨rfl, _, Eq.trans (World.drewN_drewN _ _ _) (congrArg (World.drewN _) (Nat.add_assoc _ _ _))⟩); have p192 : 0 ≤ (x11_2 : Int) := of_decide_eq_true (by first | (with_reducible assumption) | assumption); have q192 : x11_2 < (t169.length : Int) := of_decide_eq_true (by first | (with_reducible assumption) | assumption); obtain ⟨ad192, e192, hx192_0⟩ := Kd.at_string (Kd.R_reads' HO_177000.out).2.2 x11_2 p192 q192; obtain rfl : ad190 = ad192 := (by injection e192); replace p192 := eq_true p192; replace q192 := eq_true q192; have p193 : 0 ≤ (x11_2 : Int) := of_decide_eq_true (by first | (with_reducible assumption) | assumption); have q193 : x11_2 < (x6_1.length : Int) := of_decide_eq_true (by first | (with_reducible assumption) | assumption); obtain ⟨ad193, e193, hx193_0⟩ := Kd.at_bool (Kd.R_reads' HO_6.out).2.2 x11_2 p193 q193; (try rw [← Nbq147.out] at hx193_0); cases e193; replace p193 := eq_true p193; replace q193 := eq_true q193))
                          repeat (go_quiet (first | (go_at_call 10; (with_reducible refine (topiaryref11_NameEnd.calls k2 (rdOf ByteArray.empty t169 x11_2) 0 t191 _ A146.out).mono ?_); rintro e w' ⟨rfl, ⟨nd, rfl⟩⟩; (try first | exact ⟨rfl, _, World.drewN_drewN _ _ _⟩ | exact ⟨rfl, _, Eq.trans (World.drewN_drewN _ _ _) (congrArg (World.drewN _) (Nat.add_assoc _ _ _))⟩); have p192 : 0 ≤ (x11_2 : Int) := of_decide_eq_true (by first | (with_reducible assumption) | assumption); have q192 : x11_2 < (t169.length : Int) := of_decide_eq_true (by first | (with_reducible assumption) | assumption); obtain ⟨ad192, e192, hx192_0⟩ := Kd.at_string (Kd.R_reads' HO_177000.out).2.2 x11_2 p192 q192; obtain rfl : ad190 = ad192 := (by injection e192); replace p192 := eq_true p192; replace q192 := eq_true q192; have p193 : 0 ≤ (x11_2 : Int) := of_decide_eq_true (by first | (with_reducible assumption) | assumption); have q193 : x11_2 < (x6_1.length : Int) := of_decide_eq_true (by first | (with_reducible assumption) | assumption); obtain ⟨ad193, e193, hx193_0⟩ := Kd.at_bool (Kd.R_reads' HO_6.out).2.2 x11_2 p193 q193; (try rw [← Nbq147.out] at hx193_0); cases e193; replace p193 := eq_true p193; replace q193 := eq_true q193)); try go_wp2_with (first | (go_at_call 10; (with_reducible refine (topiaryref11_NameEnd.calls k2 (rdOf ByteArray.empty t169 x11_2) 0 t191 _ A146.out).mono ?_); rintro e w' ⟨rfl, ⟨nd, rfl⟩⟩; (try first | exact ⟨rfl, _, World.drewN_drewN _ _ _⟩ | exact ⟨rfl, _, Eq.trans (World.drewN_drewN _ _ _) (congrArg (World.drewN _) (Nat.add_assoc _ _ _))⟩); have p192 : 0 ≤ (x11_2 : Int) := of_decide_eq_true (by first | (with_reducible assumption) | assumption); have q192 : x11_2 < (t169.length : Int) := of_decide_eq_true (by first | (with_reducible assumption) | assumption); obtain ⟨ad192, e192, hx192_0⟩ := Kd.at_string (Kd.R_reads' HO_177000.out).2.2 x11_2 p192 q192; obtain rfl : ad190 = ad192 := (by injection e192); replace p192 := eq_true p192; replace q192 := eq_true q192; have p193 : 0 ≤ (x11_2 : Int) := of_decide_eq_true (by first | (with_reducible assumption) | assumption); have q193 : x11_2 < (x6_1.length : Int) := of_decide_eq_true (by first | (with_reducible assumption) | assumption); obtain ⟨ad193, e193, hx193_0⟩ := Kd.at_bool (Kd.R_reads' HO_6.out).2.2 x11_2 p193 q193; (try rw [← Nbq147.out] at hx193_0); cases e193; replace p193 := eq_true p193; replace q193 := eq_true q193)))
                          go_ret
                          exact ⟨by first | rfl | (simp [errW_none, errW_some] <;> rfl) | (simp [*, errW_none, errW_some] <;> rfl), by repeat (first | (with_reducible first | exact HB.out | apply below_alloc | apply pw_below_drewN | apply below_drew1 | refine below_set ?_ GE176.out) | exact HB.out)⟩
                      · rw [if_neg c145] at H
                        exact absurd H (by simp)
                    · rw [if_neg c144] at H
                      exact absurd H (by simp)
                  · rw [if_neg c143] at H
                    have c143b0 : decide (x11_2 < (x6_1.length : Int)) = false := decide_eq_false c143
                    clear c143
                    by_cases c165 : t167 = true
                    · subst c165
                      have H1 : (some (decide ((t172.length : Int) > 0))) = some r := by rw [if_pos rfl] at H; exact H
                      clear H
                      have H := H1
                      clear H1
                      obtain rfl := Option.some.inj H
                      obtain ⟨Ao166, co166, eo166⟩ := Kd.R_slice HO_6.out
                      subst eo166
                      have hcz167_0 : wr.cell? ⟨gb176, 0, none⟩ = some (.slice Ao11 t169.length co11) := (blk_cell BK176.out 0).trans rfl
                      have hcz167_1 : wr.cell? ⟨gb176, 1, none⟩ = some (.slice Ao13 t172.length co13) := (blk_cell BK176.out 1).trans rfl
                      have hfz167_0 := blk_frozen BK176.out 0
                      have hfz167_1 := blk_frozen BK176.out 1
                      go_wp2
                      repeat (go_quiet (fail); try go_wp2)
                      go_ret
                      exact ⟨by first | rfl | (simp [errW_none, errW_some] <;> rfl) | (simp [*, errW_none, errW_some] <;> rfl), by repeat (first | (with_reducible first | exact HB.out | apply below_alloc | apply pw_below_drewN | apply below_drew1 | refine below_set ?_ GE176.out) | exact HB.out)⟩
                    · replace c165 := Bool.eq_false_iff.mpr c165
                      subst c165
                      have H1 : (some false) = some r := by rw [if_neg (show ¬ (false = true) by decide)] at H; exact H
                      clear H
                      have H := H1
                      clear H1
                      obtain rfl := Option.some.inj H
                      obtain ⟨Ao168, co168, eo168⟩ := Kd.R_slice HO_6.out
                      subst eo168
                      go_wp2
                      repeat (go_quiet (fail); try go_wp2)
                      go_ret
                      exact ⟨by first | rfl | (simp [errW_none, errW_some] <;> rfl) | (simp [*, errW_none, errW_some] <;> rfl), by repeat (first | (with_reducible first | exact HB.out | apply below_alloc | apply pw_below_drewN | apply below_drew1 | refine below_set ?_ GE176.out) | exact HB.out)⟩
      · rw [if_neg c7] at H
        exact absurd H (by simp)
    · rw [if_neg c6] at H
      exact absurd H (by simp)
  · rw [if_neg c5] at H
    have c5b0 : (t175 == 0) = false := beq_eq_false_iff_ne.mpr c5
    have c5b1 : (t175 != 0) = true := bne_iff_ne.mpr c5
    by_cases c169 : t167 = true
    · subst c169
      have H1 : (some ((wrap64 ((t172.length : Int) + (t169.length : Int))) == 0)) = some r := by rw [if_pos rfl] at H; exact H
      clear H
      have H := H1
      clear H1
      obtain rfl := Option.some.inj H
      go_enter Try.func3, Try.ntmps3
      go_wp2_with (first | (go_at_call 7; (with_reducible refine (topiarylaw13_awake.calls  true _ (by first | exact hG | exact G.below hG (by repeat (first | (with_reducible first | exact HB.out | apply below_alloc | apply pw_below_drewN | apply below_drew1) | exact HB.out))) A2.out).mono ?_); rintro e w170 ⟨rfl, hb⟩; have n0_ := Aside0.mk (below_step (by repeat (first | (with_reducible first | exact HB.out | apply below_alloc | apply pw_below_drewN | apply below_drew1) | exact HB.out)) hb); clear HB; have HB := n0_; clear n0_; (try clear hb); (try clear hb2); (try clear hk); (try clear hi)) | (go_at_call 9; (with_reducible refine (topiarylaw13_short.calls a0 200 t168 _ A3.out).mono ?_); rintro e w' ⟨rfl, ⟨nd, rfl⟩⟩; (try first | exact ⟨rfl, _, World.drewN_drewN _ _ _⟩ | exact ⟨rfl, _, Eq.trans (World.drewN_drewN _ _ _) (congrArg (World.drewN _) (Nat.add_assoc _ _ _))⟩)) | (go_at_call 8; (with_reducible refine (parser_Parse.calls t168 t169 t172 t175 _ (by first | exact hG | exact G.below hG (by repeat (first | (with_reducible first | exact HB.out | apply below_alloc | apply pw_below_drewN | apply below_drew1) | exact HB.out))) A4.out).mono ?_); rintro e w171 ⟨v170, v173, rfl, ho0, ho1, hb⟩; have n0_ := Aside0.mk (Kd.R_lower ho0 (below_size (by repeat (first | (with_reducible first | exact HB.out | apply below_alloc | apply pw_below_drewN | apply below_drew1) | exact HB.out)))); have n1_ := Aside0.mk (Kd.R_lower ho1 (below_size (by repeat (first | (with_reducible first | exact HB.out | apply below_alloc | apply pw_below_drewN | apply below_drew1) | exact HB.out)))); have n2_ := Aside0.mk (below_step (by repeat (first | (with_reducible first | exact HB.out | apply below_alloc | apply pw_below_drewN | apply below_drew1) | exact HB.out)) hb); clear HB; have HO171 := n0_; have HO174 := n1_; have HB := n2_; clear n0_ n1_ n2_; (try clear hb); (try clear hb2); (try clear hk); (try clear hi); (try clear ho0); (try clear ho1)) | ((with_reducible refine gate_dst (N := 4) rfl ?_); (try (refine gate_guard (by rfl) ?_; dsimp only)); refine box_event ?hg (N := 4) ?hd (cs := #[.slice none 0 0, .slice none 0 0]) (t := 26) ?hr ?_; (case hd => rfl); (case hg => rfl); (case hr => first | (go_simp; done) | (go_simp; rfl)); intro gb176 hg w172 hbox hb; have n0_ := Aside0.mk (Kd.R_below (by (with_reducible repeat (first | apply Kd.R_alloc | apply Kd.R_drewN | apply Kd.R_drew)); exact HO171.out) hb); have n1_ := Aside0.mk (Kd.R_below (by (with_reducible repeat (first | apply Kd.R_alloc | apply Kd.R_drewN | apply Kd.R_drew)); exact HO174.out) hb); have n2_ := Aside0.mk (below_step (by repeat (first | (with_reducible first | exact HB.out | apply below_alloc | apply pw_below_drewN | apply below_drew1) | exact HB.out)) hb); have n3_ := Aside0.mk (hbox); have n4_ := Aside0.mk ((by rw [hg]; exact (below_size (by repeat (first | (with_reducible first | exact HB.out | apply below_alloc | apply pw_below_drewN | apply below_drew1) | exact HB.out))) : w.heap.size ≤ gb176)); have n5_ := Aside0.mk ((by rw [hg]; exact (below_size (by repeat (first | (with_reducible first | exact HB.out | apply below_alloc | apply pw_below_drewN | apply below_drew1) | exact HB.out))) : w.heap.size ≤ gb176)); clear HO171; clear HO174; clear HB; have HO171 := n0_; have HO174 := n1_; have HB := n2_; have BK176 := n3_; have GW176 := n4_; have GE176 := n5_; clear n0_ n1_ n2_ n3_ n4_ n5_; clear hb hbox hg; obtain ⟨Ao173, co173, eo173⟩ := Kd.R_slice HO171.out; subst eo173; have hcz174_0 : w172.cell? ⟨gb176, 0, none⟩ = some (.slice none 0 0) := (blk_cell BK176.out 0).trans rfl; have hcz174_1 : w172.cell? ⟨gb176, 1, none⟩ = some (.slice none 0 0) := (blk_cell BK176.out 1).trans rfl; have hfz174_0 := blk_frozen BK176.out 0; have hfz174_1 := blk_frozen BK176.out 1; obtain ⟨Ao175, co175, eo175⟩ := Kd.R_slice HO174.out; subst eo175))
      repeat (go_quiet (fail); try go_wp2)
      go_ret
      exact ⟨by first | rfl | (simp [errW_none, errW_some] <;> rfl) | (simp [*, errW_none, errW_some] <;> rfl), by repeat (first | (with_reducible first | exact HB.out | apply below_alloc | apply pw_below_drewN | apply below_drew1 | refine below_set ?_ GE176.out) | exact HB.out)⟩
    · replace c169 := Bool.eq_false_iff.mpr c169
      subst c169
      have H1 : (some false) = some r := by rw [if_neg (show ¬ (false = true) by decide)] at H; exact H
      clear H
      have H := H1
      clear H1
      obtain rfl := Option.some.inj H
      go_enter Try.func3, Try.ntmps3
      go_wp2_with (first | (go_at_call 7; (with_reducible refine (topiarylaw13_awake.calls  false _ (by first | exact hG | exact G.below hG (by repeat (first | (with_reducible first | exact HB.out | apply below_alloc | apply pw_below_drewN | apply below_drew1) | exact HB.out))) A2.out).mono ?_); rintro e w176 ⟨rfl, hb⟩; have n0_ := Aside0.mk (below_step (by repeat (first | (with_reducible first | exact HB.out | apply below_alloc | apply pw_below_drewN | apply below_drew1) | exact HB.out)) hb); clear HB; have HB := n0_; clear n0_; (try clear hb); (try clear hb2); (try clear hk); (try clear hi)) | (go_at_call 9; (with_reducible refine (topiarylaw13_short.calls a0 200 t168 _ A3.out).mono ?_); rintro e w' ⟨rfl, ⟨nd, rfl⟩⟩; (try first | exact ⟨rfl, _, World.drewN_drewN _ _ _⟩ | exact ⟨rfl, _, Eq.trans (World.drewN_drewN _ _ _) (congrArg (World.drewN _) (Nat.add_assoc _ _ _))⟩)) | (go_at_call 8; (with_reducible refine (parser_Parse.calls t168 t169 t172 t175 _ (by first | exact hG | exact G.below hG (by repeat (first | (with_reducible first | exact HB.out | apply below_alloc | apply pw_below_drewN | apply below_drew1) | exact HB.out))) A4.out).mono ?_); rintro e w177 ⟨v170, v173, rfl, ho0, ho1, hb⟩; have n0_ := Aside0.mk (Kd.R_lower ho0 (below_size (by repeat (first | (with_reducible first | exact HB.out | apply below_alloc | apply pw_below_drewN | apply below_drew1) | exact HB.out)))); have n1_ := Aside0.mk (Kd.R_lower ho1 (below_size (by repeat (first | (with_reducible first | exact HB.out | apply below_alloc | apply pw_below_drewN | apply below_drew1) | exact HB.out)))); have n2_ := Aside0.mk (below_step (by repeat (first | (with_reducible first | exact HB.out | apply below_alloc | apply pw_below_drewN | apply below_drew1) | exact HB.out)) hb); clear HB; have HO171 := n0_; have HO174 := n1_; have HB := n2_; clear n0_ n1_ n2_; (try clear hb); (try clear hb2); (try clear hk); (try clear hi); (try clear ho0); (try clear ho1)) | ((with_reducible refine gate_dst (N := 4) rfl ?_); (try (refine gate_guard (by rfl) ?_; dsimp only)); refine box_event ?hg (N := 4) ?hd (cs := #[.slice none 0 0, .slice none 0 0]) (t := 26) ?hr ?_; (case hd => rfl); (case hg => rfl); (case hr => first | (go_simp; done) | (go_simp; rfl)); intro gb176 hg w178 hbox hb; have n0_ := Aside0.mk (Kd.R_below (by (with_reducible repeat (first | apply Kd.R_alloc | apply Kd.R_drewN | apply Kd.R_drew)); exact HO171.out) hb); have n1_ := Aside0.mk (Kd.R_below (by (with_reducible repeat (first | apply Kd.R_alloc | apply Kd.R_drewN | apply Kd.R_drew)); exact HO174.out) hb); have n2_ := Aside0.mk (below_step (by repeat (first | (with_reducible first | exact HB.out | apply below_alloc | apply pw_below_drewN | apply below_drew1) | exact HB.out)) hb); have n3_ := Aside0.mk (hbox); have n4_ := Aside0.mk ((by rw [hg]; exact (below_size (by repeat (first | (with_reducible first | exact HB.out | apply below_alloc | apply pw_below_drewN | apply below_drew1) | exact HB.out))) : w.heap.size ≤ gb176)); have n5_ := Aside0.mk ((by rw [hg]; exact (below_size (by repeat (first | (with_reducible first | exact HB.out | apply below_alloc | apply pw_below_drewN | apply below_drew1) | exact HB.out))) : w.heap.size ≤ gb176)); clear HO171; clear HO174; clear HB; have HO171 := n0_; have HO174 := n1_; have HB := n2_; have BK176 := n3_; have GW176 := n4_; have GE176 := n5_; clear n0_ n1_ n2_ n3_ n4_ n5_; clear hb hbox hg; obtain ⟨Ao179, co179, eo179⟩ := Kd.R_slice HO171.out; subst eo179; have hcz180_0 : w178.cell? ⟨gb176, 0, none⟩ = some (.slice none 0 0) := (blk_cell BK176.out 0).trans rfl; have hcz180_1 : w178.cell? ⟨gb176, 1, none⟩ = some (.slice none 0 0) := (blk_cell BK176.out 1).trans rfl; have hfz180_0 := blk_frozen BK176.out 0; have hfz180_1 := blk_frozen BK176.out 1; obtain ⟨Ao181, co181, eo181⟩ := Kd.R_slice HO174.out; subst eo181))
      repeat (go_quiet (fail); try go_wp2)
      go_ret
      exact ⟨by first | rfl | (simp [errW_none, errW_some] <;> rfl) | (simp [*, errW_none, errW_some] <;> rfl), by repeat (first | (with_reducible first | exact HB.out | apply below_alloc | apply pw_below_drewN | apply below_drew1 | refine below_set ?_ GE176.out) | exact HB.out)⟩
def topiarylaw13_ParserStands.Pure : Prop := ∀ (a0 : ByteArray), a0.size ≤ 140737488351232 → ∃ k, topiarylaw13_ParserStands.f k a0 = some true
theorem topiarylaw13_ParserStands.walk (P : topiarylaw13_ParserStands.Pure) (a0 : ByteArray) (w : World) (hG : G w) (w0 : a0.size ≤ 140737488351232) :
    Calls Try.prog 3 #[.string a0] w fun e w' => e = .returned (.bool true) ∧ Below w.heap.size w w' := by
  obtain ⟨k, h⟩ := P a0 w0
  refine (topiarylaw13_ParserStands.calls k a0 true w hG h).mono ?_
  rintro e w' ⟨rfl, hd⟩
  exact ⟨rfl, hd⟩
end Go.Proofs.Ytlhhhlimjajnlaa.Q
end
