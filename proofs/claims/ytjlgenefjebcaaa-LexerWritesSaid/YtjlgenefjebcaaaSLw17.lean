/- Parts of the proof of lexerWrites_holds, kept and merged by a program of mine (wip/tools/slim.py) out of my texts: Q11 -/
import Derived.Test.YtjlgenefjebcaaaSLw4
import Derived.Test.YtjlgenefjebcaaaSLw16
section
namespace Go.Proofs.Ytjlgenefjebcaaa.X
end Go.Proofs.Ytjlgenefjebcaaa.X
namespace Go.Proofs.Ytjlgenefjebcaaa.Q
open Go.RowKit Go.Proofs.YtjlgenefjebcaaaW.PrintWords Go.Proofs.YtjlgenefjebcaaaW.PrintLast Go.Proofs.YtjlgenefjebcaaaW.PrintMore
attribute [local go_sem] max2_int min2_int max_two min_two max_three min_three max_four min_four   
open Go.Proofs.Ytjlgenefjebcaaa.X
set_option linter.unusedVariables false
set_option linter.unusedSimpArgs false
mutual
def topiarylaw12_LexerWrites.l0 : Nat → List Int → List ByteArray → Bool → ByteArray → Int → Int → Int → Int → Option (Bool)
  | 0, _, _, _, _, _, _, _, _ => none
  | k + 1, x0, x1, x7, x8, x9, x10, x166000, x166001 => if x10 < x9 then (if 0 ≤ x10 then (if x10 ≤ (wrap64 (x10 + 1)) then (if (wrap64 (x10 + 1)) ≤ 3 then (if x8.size + ((⟨#[32, 10, 9]⟩ : ByteArray).extract (x10 : Int).toNat ((wrap64 (x10 + 1)) : Int).toNat).size ≤ 9223372036854775807 then (topiarylaw12_LexerWrites.l0 k x0 x1 x7 (x8 ++ ((⟨#[32, 10, 9]⟩ : ByteArray).extract (x10 : Int).toNat ((wrap64 (x10 + 1)) : Int).toNat)) x9 (wrap64 (x10 + 1)) x166000 x166001) else (none)) else (none)) else (none)) else (none)) else (topiarylaw12_LexerWrites.l1 k x0 x1 x7 x8 (⟨#[60, 116]⟩ : ByteArray) ([] : List ByteArray) ([] : List ByteArray) 0 x166000 x166001)
def topiarylaw12_LexerWrites.l1 : Nat → List Int → List ByteArray → Bool → ByteArray → ByteArray → List ByteArray → List ByteArray → Int → Int → Int → Option (Bool)
  | 0, _, _, _, _, _, _, _, _, _, _ => none
  | k + 1, x0, x1, x7, x8, x11, x12, x13, x14, x166000, x166001 => if x14 < (x0.length : Int) then (if x14 < (x1.length : Int) then (topiarylaw12_LexerWrites.j2 k x0 x1 x7 x8 x11 x12 x13 x14 (decide (x14 < 6)) x166000 x166001) else (topiarylaw12_LexerWrites.j2 k x0 x1 x7 x8 x11 x12 x13 x14 false x166000 x166001)) else (topiarylaw12_LexerWrites.j2 k x0 x1 x7 x8 x11 x12 x13 x14 false x166000 x166001)
def topiarylaw12_LexerWrites.j2 : Nat → List Int → List ByteArray → Bool → ByteArray → ByteArray → List ByteArray → List ByteArray → Int → Bool → Int → Int → Option (Bool)
  | 0, _, _, _, _, _, _, _, _, _, _, _ => none
  | k + 1, x0, x1, x7, x8, x11, x12, x13, x14, x50, x166000, x166001 => if x50 = true then (if 0 ≤ x14 then (if x14 < (x0.length : Int) then ((some (([(97 + (Int.tmod (rd x0 x14) 26)) % 256] : List Int) : List Int)).bind fun y168 => (if 1 + (strOfNums y168).size ≤ 9223372036854775807 then (if x14 < (x1.length : Int) then ((topiarylaw12_short.f (rdOf ByteArray.empty x1 x14) 10).bind fun t172 => ((topiaryref11_Valid.f k t172).bind fun t173 => (if t173 = true then (topiarylaw12_LexerWrites.j3 k x0 x1 x7 x8 x11 x12 x13 x14 ((⟨#[110]⟩ : ByteArray) ++ (strOfNums y168)) t172 x166000 x166001) else (topiarylaw12_LexerWrites.j3 k x0 x1 x7 x8 x11 x12 x13 x14 ((⟨#[110]⟩ : ByteArray) ++ (strOfNums y168)) (⟨#[118]⟩ : ByteArray) x166000 x166001)))) else (none)) else (none))) else (none)) else (none)) else (if x11.size + x8.size ≤ 9223372036854775807 then (if (Int.tmod x166001 2) = 0 then (if (x11 ++ x8).size + 1 ≤ 9223372036854775807 then (topiarylaw12_LexerWrites.j4 k x7 ((x11 ++ x8) ++ (⟨#[47]⟩ : ByteArray)) x12 x13 x166000 x166001) else (none)) else (topiarylaw12_LexerWrites.j4 k x7 (x11 ++ x8) x12 x13 x166000 x166001)) else (none))
def topiarylaw12_LexerWrites.j3 : Nat → List Int → List ByteArray → Bool → ByteArray → ByteArray → List ByteArray → List ByteArray → Int → ByteArray → ByteArray → Int → Int → Option (Bool)
  | 0, _, _, _, _, _, _, _, _, _, _, _, _ => none
  | k + 1, x0, x1, x7, x8, x11, x12, x13, x14, x15, x16, x166000, x166001 => if (Int.tmod x14 2) = 1 then ((topiarylaw12_has.f k x16 39).bind fun t174 => (if t174 = true then (if x11.size + 1 ≤ 9223372036854775807 then (if (x11 ++ (⟨#[32]⟩ : ByteArray)).size + x8.size ≤ 9223372036854775807 then (if ((x11 ++ (⟨#[32]⟩ : ByteArray)) ++ x8).size + x15.size ≤ 9223372036854775807 then (if (((x11 ++ (⟨#[32]⟩ : ByteArray)) ++ x8) ++ x15).size + x8.size ≤ 9223372036854775807 then (if ((((x11 ++ (⟨#[32]⟩ : ByteArray)) ++ x8) ++ x15) ++ x8).size + 1 ≤ 9223372036854775807 then (if (((((x11 ++ (⟨#[32]⟩ : ByteArray)) ++ x8) ++ x15) ++ x8) ++ (⟨#[61]⟩ : ByteArray)).size + x8.size ≤ 9223372036854775807 then (if ((((((x11 ++ (⟨#[32]⟩ : ByteArray)) ++ x8) ++ x15) ++ x8) ++ (⟨#[61]⟩ : ByteArray)) ++ x8).size + 1 ≤ 9223372036854775807 then ((topiaryref11_Escape.f k (⟨#[119]⟩ : ByteArray)).bind fun t175 => (if (((((((x11 ++ (⟨#[32]⟩ : ByteArray)) ++ x8) ++ x15) ++ x8) ++ (⟨#[61]⟩ : ByteArray)) ++ x8) ++ (⟨#[39]⟩ : ByteArray)).size + t175.size ≤ 9223372036854775807 then (if ((((((((x11 ++ (⟨#[32]⟩ : ByteArray)) ++ x8) ++ x15) ++ x8) ++ (⟨#[61]⟩ : ByteArray)) ++ x8) ++ (⟨#[39]⟩ : ByteArray)) ++ t175).size + 1 ≤ 9223372036854775807 then (if x12.length < 8796093022208 then (if x13.length < 8796093022208 then (topiarylaw12_LexerWrites.l1 k x0 x1 x7 x8 (((((((((x11 ++ (⟨#[32]⟩ : ByteArray)) ++ x8) ++ x15) ++ x8) ++ (⟨#[61]⟩ : ByteArray)) ++ x8) ++ (⟨#[39]⟩ : ByteArray)) ++ t175) ++ (⟨#[39]⟩ : ByteArray)) (x12 ++ [(⟨#[119]⟩ : ByteArray)]) (x13 ++ [x15]) (wrap64 (x14 + 1)) x166000 x166001) else (none)) else (none)) else (none)) else (none))) else (none)) else (none)) else (none)) else (none)) else (none)) else (none)) else (none)) else (if x11.size + 1 ≤ 9223372036854775807 then (if (x11 ++ (⟨#[32]⟩ : ByteArray)).size + x8.size ≤ 9223372036854775807 then (if ((x11 ++ (⟨#[32]⟩ : ByteArray)) ++ x8).size + x15.size ≤ 9223372036854775807 then (if (((x11 ++ (⟨#[32]⟩ : ByteArray)) ++ x8) ++ x15).size + x8.size ≤ 9223372036854775807 then (if ((((x11 ++ (⟨#[32]⟩ : ByteArray)) ++ x8) ++ x15) ++ x8).size + 1 ≤ 9223372036854775807 then (if (((((x11 ++ (⟨#[32]⟩ : ByteArray)) ++ x8) ++ x15) ++ x8) ++ (⟨#[61]⟩ : ByteArray)).size + x8.size ≤ 9223372036854775807 then (if ((((((x11 ++ (⟨#[32]⟩ : ByteArray)) ++ x8) ++ x15) ++ x8) ++ (⟨#[61]⟩ : ByteArray)) ++ x8).size + 1 ≤ 9223372036854775807 then ((topiaryref11_Escape.f k x16).bind fun t182 => (if (((((((x11 ++ (⟨#[32]⟩ : ByteArray)) ++ x8) ++ x15) ++ x8) ++ (⟨#[61]⟩ : ByteArray)) ++ x8) ++ (⟨#[39]⟩ : ByteArray)).size + t182.size ≤ 9223372036854775807 then (if ((((((((x11 ++ (⟨#[32]⟩ : ByteArray)) ++ x8) ++ x15) ++ x8) ++ (⟨#[61]⟩ : ByteArray)) ++ x8) ++ (⟨#[39]⟩ : ByteArray)) ++ t182).size + 1 ≤ 9223372036854775807 then (if x12.length < 8796093022208 then (if x13.length < 8796093022208 then (topiarylaw12_LexerWrites.l1 k x0 x1 x7 x8 (((((((((x11 ++ (⟨#[32]⟩ : ByteArray)) ++ x8) ++ x15) ++ x8) ++ (⟨#[61]⟩ : ByteArray)) ++ x8) ++ (⟨#[39]⟩ : ByteArray)) ++ t182) ++ (⟨#[39]⟩ : ByteArray)) (x12 ++ [x16]) (x13 ++ [x15]) (wrap64 (x14 + 1)) x166000 x166001) else (none)) else (none)) else (none)) else (none))) else (none)) else (none)) else (none)) else (none)) else (none)) else (none)) else (none)))) else (if x11.size + 1 ≤ 9223372036854775807 then (if (x11 ++ (⟨#[32]⟩ : ByteArray)).size + x8.size ≤ 9223372036854775807 then (if ((x11 ++ (⟨#[32]⟩ : ByteArray)) ++ x8).size + x15.size ≤ 9223372036854775807 then (if (((x11 ++ (⟨#[32]⟩ : ByteArray)) ++ x8) ++ x15).size + x8.size ≤ 9223372036854775807 then (if ((((x11 ++ (⟨#[32]⟩ : ByteArray)) ++ x8) ++ x15) ++ x8).size + 1 ≤ 9223372036854775807 then (if (((((x11 ++ (⟨#[32]⟩ : ByteArray)) ++ x8) ++ x15) ++ x8) ++ (⟨#[61]⟩ : ByteArray)).size + x8.size ≤ 9223372036854775807 then (if ((((((x11 ++ (⟨#[32]⟩ : ByteArray)) ++ x8) ++ x15) ++ x8) ++ (⟨#[61]⟩ : ByteArray)) ++ x8).size + 1 ≤ 9223372036854775807 then ((topiaryref11_Escape.f k x16).bind fun t189 => (if (((((((x11 ++ (⟨#[32]⟩ : ByteArray)) ++ x8) ++ x15) ++ x8) ++ (⟨#[61]⟩ : ByteArray)) ++ x8) ++ (⟨#[34]⟩ : ByteArray)).size + t189.size ≤ 9223372036854775807 then (if ((((((((x11 ++ (⟨#[32]⟩ : ByteArray)) ++ x8) ++ x15) ++ x8) ++ (⟨#[61]⟩ : ByteArray)) ++ x8) ++ (⟨#[34]⟩ : ByteArray)) ++ t189).size + 1 ≤ 9223372036854775807 then (if x12.length < 8796093022208 then (if x13.length < 8796093022208 then (topiarylaw12_LexerWrites.l1 k x0 x1 x7 x8 (((((((((x11 ++ (⟨#[32]⟩ : ByteArray)) ++ x8) ++ x15) ++ x8) ++ (⟨#[61]⟩ : ByteArray)) ++ x8) ++ (⟨#[34]⟩ : ByteArray)) ++ t189) ++ (⟨#[34]⟩ : ByteArray)) (x12 ++ [x16]) (x13 ++ [x15]) (wrap64 (x14 + 1)) x166000 x166001) else (none)) else (none)) else (none)) else (none))) else (none)) else (none)) else (none)) else (none)) else (none)) else (none)) else (none))
def topiarylaw12_LexerWrites.j4 : Nat → Bool → ByteArray → List ByteArray → List ByteArray → Int → Int → Option (Bool)
  | 0, _, _, _, _, _, _ => none
  | k + 1, x7, x11, x12, x13, x166000, x166001 => if x11.size + 1 ≤ 9223372036854775807 then ((lexer_Lex.f (x11 ++ (⟨#[62]⟩ : ByteArray))).bind fun bt196 => (if bt196.2 = 0 then (if (bt196.1.length : Int) = (wrap64 ((x12.length : Int) + 2)) then (if 0 < (bt196.1.length : Int) then (topiarylaw12_LexerWrites.j5 k x7 x12 x13 bt196.1 (((rd_T41 bt196.1 0).f3).toList != ([116] : List UInt8)) x166000 x166001) else (none)) else (topiarylaw12_LexerWrites.j5 k x7 x12 x13 bt196.1 true x166000 x166001)) else (topiarylaw12_LexerWrites.j5 k x7 x12 x13 bt196.1 true x166000 x166001))) else (none)
def topiarylaw12_LexerWrites.j5 : Nat → Bool → List ByteArray → List ByteArray → List (S41) → Bool → Int → Int → Option (Bool)
  | 0, _, _, _, _, _, _, _ => none
  | k + 1, x7, x12, x13, x18, x133, x166000, x166001 => if x133 = true then (some false) else (topiarylaw12_LexerWrites.l2 k x7 x12 x13 x18 0 x166000 x166001)
def topiarylaw12_LexerWrites.l2 : Nat → Bool → List ByteArray → List ByteArray → List (S41) → Int → Int → Int → Option (Bool)
  | 0, _, _, _, _, _, _, _ => none
  | k + 1, x7, x12, x13, x18, x20, x166000, x166001 => if x20 < (x12.length : Int) then (if 0 ≤ (wrap64 (x20 + 1)) then (if (wrap64 (x20 + 1)) < (x18.length : Int) then (if ((rd_T41 x18 (wrap64 (x20 + 1))).f0) = 2 then (if 0 ≤ x20 then (if x20 < (x13.length : Int) then (if ((rd_T41 x18 (wrap64 (x20 + 1))).f3).toList = (rdOf ByteArray.empty x13 x20).toList then (if ((rd_T41 x18 (wrap64 (x20 + 1))).f4).toList = (rdOf ByteArray.empty x12 x20).toList then (topiarylaw12_LexerWrites.l2 k x7 x12 x13 x18 (wrap64 (x20 + 1)) x166000 x166001) else (some false)) else (some false)) else (none)) else (none)) else (some false)) else (none)) else (none)) else (if 0 ≤ (wrap64 ((x18.length : Int) - 1)) then (if (wrap64 ((x18.length : Int) - 1)) < (x18.length : Int) then (if x7 = true then (some (((Int.tmod x166001 2) == 0) == (((rd_T41 x18 (wrap64 ((x18.length : Int) - 1))).f0) == 4))) else (some false)) else (none)) else (none))
end
def topiarylaw12_LexerWrites.f (k : Nat) (l0 : List Int) (l1 : List ByteArray) (a2_0 : Int) (a2_1 : Int) : Option (Bool) := (topiarylaw12_awake.f).bind fun t166 => (topiarylaw12_LexerWrites.l0 k l0 l1 t166 (⟨#[]⟩ : ByteArray) (Int.tmod a2_0 4) 0 a2_0 a2_1)
theorem topiarylaw12_LexerWrites.mono_l : ∀ k, (∀ y0 y1 y2 y3 y4 y5 y6 y7, LeO (topiarylaw12_LexerWrites.l0 k y0 y1 y2 y3 y4 y5 y6 y7) (topiarylaw12_LexerWrites.l0 (k + 1) y0 y1 y2 y3 y4 y5 y6 y7)) ∧ (∀ y0 y1 y2 y3 y4 y5 y6 y7 y8 y9, LeO (topiarylaw12_LexerWrites.l1 k y0 y1 y2 y3 y4 y5 y6 y7 y8 y9) (topiarylaw12_LexerWrites.l1 (k + 1) y0 y1 y2 y3 y4 y5 y6 y7 y8 y9)) ∧ (∀ y0 y1 y2 y3 y4 y5 y6 y7 y8 y9 y10, LeO (topiarylaw12_LexerWrites.j2 k y0 y1 y2 y3 y4 y5 y6 y7 y8 y9 y10) (topiarylaw12_LexerWrites.j2 (k + 1) y0 y1 y2 y3 y4 y5 y6 y7 y8 y9 y10)) ∧ (∀ y0 y1 y2 y3 y4 y5 y6 y7 y8 y9 y10 y11, LeO (topiarylaw12_LexerWrites.j3 k y0 y1 y2 y3 y4 y5 y6 y7 y8 y9 y10 y11) (topiarylaw12_LexerWrites.j3 (k + 1) y0 y1 y2 y3 y4 y5 y6 y7 y8 y9 y10 y11)) ∧ (∀ y0 y1 y2 y3 y4 y5, LeO (topiarylaw12_LexerWrites.j4 k y0 y1 y2 y3 y4 y5) (topiarylaw12_LexerWrites.j4 (k + 1) y0 y1 y2 y3 y4 y5)) ∧ (∀ y0 y1 y2 y3 y4 y5 y6, LeO (topiarylaw12_LexerWrites.j5 k y0 y1 y2 y3 y4 y5 y6) (topiarylaw12_LexerWrites.j5 (k + 1) y0 y1 y2 y3 y4 y5 y6)) ∧ (∀ y0 y1 y2 y3 y4 y5 y6, LeO (topiarylaw12_LexerWrites.l2 k y0 y1 y2 y3 y4 y5 y6) (topiarylaw12_LexerWrites.l2 (k + 1) y0 y1 y2 y3 y4 y5 y6))
  | 0 => ⟨fun _ _ _ _ _ _ _ _ r h => by simp [topiarylaw12_LexerWrites.l0] at h, fun _ _ _ _ _ _ _ _ _ _ r h => by simp [topiarylaw12_LexerWrites.l1] at h, fun _ _ _ _ _ _ _ _ _ _ _ r h => by simp [topiarylaw12_LexerWrites.j2] at h, fun _ _ _ _ _ _ _ _ _ _ _ _ r h => by simp [topiarylaw12_LexerWrites.j3] at h, fun _ _ _ _ _ _ r h => by simp [topiarylaw12_LexerWrites.j4] at h, fun _ _ _ _ _ _ _ r h => by simp [topiarylaw12_LexerWrites.j5] at h, fun _ _ _ _ _ _ _ r h => by simp [topiarylaw12_LexerWrites.l2] at h⟩
  | k + 1 => by
    obtain ⟨ih0, ih1, ih2, ih3, ih4, ih5, ih6⟩ := topiarylaw12_LexerWrites.mono_l k
    refine ⟨?_, ?_, ?_, ?_, ?_, ?_, ?_⟩
    · intro y0 y1 y2 y3 y4 y5 y6 y7
      unfold topiarylaw12_LexerWrites.l0
      repeat' first
      | (with_reducible exact ih0 _ _ _ _ _ _ _ _)
      | (with_reducible exact ih1 _ _ _ _ _ _ _ _ _ _)
      | (with_reducible exact ih2 _ _ _ _ _ _ _ _ _ _ _)
      | (with_reducible exact ih3 _ _ _ _ _ _ _ _ _ _ _ _)
      | (with_reducible exact ih4 _ _ _ _ _ _)
      | (with_reducible exact ih5 _ _ _ _ _ _ _)
      | (with_reducible exact ih6 _ _ _ _ _ _ _)
      | (with_reducible exact topiarylaw12_has.mono _ _ _)
      | (with_reducible exact topiaryref11_Escape.mono _ _)
      | (with_reducible exact topiaryref11_Valid.mono _ _)
      | (with_reducible exact LeO.refl _)
      | (with_reducible exact LeO.none _)
      | (with_reducible refine LeO.ite ?_ ?_)
      | (with_reducible refine LeO.bind ?_ (fun _ => ?_))
      | exact ih0 _ _ _ _ _ _ _ _
      | exact ih1 _ _ _ _ _ _ _ _ _ _
      | exact ih2 _ _ _ _ _ _ _ _ _ _ _
      | exact ih3 _ _ _ _ _ _ _ _ _ _ _ _
      | exact ih4 _ _ _ _ _ _
      | exact ih5 _ _ _ _ _ _ _
      | exact ih6 _ _ _ _ _ _ _
      | exact topiarylaw12_has.mono _ _ _
      | exact topiaryref11_Escape.mono _ _
      | exact topiaryref11_Valid.mono _ _
      | exact LeO.none _
      | refine LeO.ite ?_ ?_
      | refine LeO.bind ?_ (fun _ => ?_)
    · intro y0 y1 y2 y3 y4 y5 y6 y7 y8 y9
      unfold topiarylaw12_LexerWrites.l1
      repeat' first
      | (with_reducible exact ih0 _ _ _ _ _ _ _ _)
      | (with_reducible exact ih1 _ _ _ _ _ _ _ _ _ _)
      | (with_reducible exact ih2 _ _ _ _ _ _ _ _ _ _ _)
      | (with_reducible exact ih3 _ _ _ _ _ _ _ _ _ _ _ _)
      | (with_reducible exact ih4 _ _ _ _ _ _)
      | (with_reducible exact ih5 _ _ _ _ _ _ _)
      | (with_reducible exact ih6 _ _ _ _ _ _ _)
      | (with_reducible exact topiarylaw12_has.mono _ _ _)
      | (with_reducible exact topiaryref11_Escape.mono _ _)
      | (with_reducible exact topiaryref11_Valid.mono _ _)
      | (with_reducible exact LeO.refl _)
      | (with_reducible exact LeO.none _)
      | (with_reducible refine LeO.ite ?_ ?_)
      | (with_reducible refine LeO.bind ?_ (fun _ => ?_))
      | exact ih0 _ _ _ _ _ _ _ _
      | exact ih1 _ _ _ _ _ _ _ _ _ _
      | exact ih2 _ _ _ _ _ _ _ _ _ _ _
      | exact ih3 _ _ _ _ _ _ _ _ _ _ _ _
      | exact ih4 _ _ _ _ _ _
      | exact ih5 _ _ _ _ _ _ _
      | exact ih6 _ _ _ _ _ _ _
      | exact topiarylaw12_has.mono _ _ _
      | exact topiaryref11_Escape.mono _ _
      | exact topiaryref11_Valid.mono _ _
      | exact LeO.none _
      | refine LeO.ite ?_ ?_
      | refine LeO.bind ?_ (fun _ => ?_)
    · intro y0 y1 y2 y3 y4 y5 y6 y7 y8 y9 y10
      unfold topiarylaw12_LexerWrites.j2
      repeat' first
      | (with_reducible exact ih0 _ _ _ _ _ _ _ _)
      | (with_reducible exact ih1 _ _ _ _ _ _ _ _ _ _)
      | (with_reducible exact ih2 _ _ _ _ _ _ _ _ _ _ _)
      | (with_reducible exact ih3 _ _ _ _ _ _ _ _ _ _ _ _)
      | (with_reducible exact ih4 _ _ _ _ _ _)
      | (with_reducible exact ih5 _ _ _ _ _ _ _)
      | (with_reducible exact ih6 _ _ _ _ _ _ _)
      | (with_reducible exact topiarylaw12_has.mono _ _ _)
      | (with_reducible exact topiaryref11_Escape.mono _ _)
      | (with_reducible exact topiaryref11_Valid.mono _ _)
      | (with_reducible exact LeO.refl _)
      | (with_reducible exact LeO.none _)
      | (with_reducible refine LeO.ite ?_ ?_)
      | (with_reducible refine LeO.bind ?_ (fun _ => ?_))
      | exact ih0 _ _ _ _ _ _ _ _
      | exact ih1 _ _ _ _ _ _ _ _ _ _
      | exact ih2 _ _ _ _ _ _ _ _ _ _ _
      | exact ih3 _ _ _ _ _ _ _ _ _ _ _ _
      | exact ih4 _ _ _ _ _ _
      | exact ih5 _ _ _ _ _ _ _
      | exact ih6 _ _ _ _ _ _ _
      | exact topiarylaw12_has.mono _ _ _
      | exact topiaryref11_Escape.mono _ _
      | exact topiaryref11_Valid.mono _ _
      | exact LeO.none _
      | refine LeO.ite ?_ ?_
      | refine LeO.bind ?_ (fun _ => ?_)
    · intro y0 y1 y2 y3 y4 y5 y6 y7 y8 y9 y10 y11
      unfold topiarylaw12_LexerWrites.j3
      repeat' first
      | (with_reducible exact ih0 _ _ _ _ _ _ _ _)
      | (with_reducible exact ih1 _ _ _ _ _ _ _ _ _ _)
      | (with_reducible exact ih2 _ _ _ _ _ _ _ _ _ _ _)
      | (with_reducible exact ih3 _ _ _ _ _ _ _ _ _ _ _ _)
      | (with_reducible exact ih4 _ _ _ _ _ _)
      | (with_reducible exact ih5 _ _ _ _ _ _ _)
      | (with_reducible exact ih6 _ _ _ _ _ _ _)
      | (with_reducible exact topiarylaw12_has.mono _ _ _)
      | (with_reducible exact topiaryref11_Escape.mono _ _)
      | (with_reducible exact topiaryref11_Valid.mono _ _)
      | (with_reducible exact LeO.refl _)
      | (with_reducible exact LeO.none _)
      | (with_reducible refine LeO.ite ?_ ?_)
      | (with_reducible refine LeO.bind ?_ (fun _ => ?_))
      | exact ih0 _ _ _ _ _ _ _ _
      | exact ih1 _ _ _ _ _ _ _ _ _ _
      | exact ih2 _ _ _ _ _ _ _ _ _ _ _
      | exact ih3 _ _ _ _ _ _ _ _ _ _ _ _
      | exact ih4 _ _ _ _ _ _
      | exact ih5 _ _ _ _ _ _ _
      | exact ih6 _ _ _ _ _ _ _
      | exact topiarylaw12_has.mono _ _ _
      | exact topiaryref11_Escape.mono _ _
      | exact topiaryref11_Valid.mono _ _
      | exact LeO.none _
      | refine LeO.ite ?_ ?_
      | refine LeO.bind ?_ (fun _ => ?_)
    · intro y0 y1 y2 y3 y4 y5
      unfold topiarylaw12_LexerWrites.j4
      repeat' first
      | (with_reducible exact ih0 _ _ _ _ _ _ _ _)
      | (with_reducible exact ih1 _ _ _ _ _ _ _ _ _ _)
      | (with_reducible exact ih2 _ _ _ _ _ _ _ _ _ _ _)
      | (with_reducible exact ih3 _ _ _ _ _ _ _ _ _ _ _ _)
      | (with_reducible exact ih4 _ _ _ _ _ _)
      | (with_reducible exact ih5 _ _ _ _ _ _ _)
      | (with_reducible exact ih6 _ _ _ _ _ _ _)
      | (with_reducible exact topiarylaw12_has.mono _ _ _)
      | (with_reducible exact topiaryref11_Escape.mono _ _)
      | (with_reducible exact topiaryref11_Valid.mono _ _)
      | (with_reducible exact LeO.refl _)
      | (with_reducible exact LeO.none _)
      | (with_reducible refine LeO.ite ?_ ?_)
      | (with_reducible refine LeO.bind ?_ (fun _ => ?_))
      | exact ih0 _ _ _ _ _ _ _ _
      | exact ih1 _ _ _ _ _ _ _ _ _ _
      | exact ih2 _ _ _ _ _ _ _ _ _ _ _
      | exact ih3 _ _ _ _ _ _ _ _ _ _ _ _
      | exact ih4 _ _ _ _ _ _
      | exact ih5 _ _ _ _ _ _ _
      | exact ih6 _ _ _ _ _ _ _
      | exact topiarylaw12_has.mono _ _ _
      | exact topiaryref11_Escape.mono _ _
      | exact topiaryref11_Valid.mono _ _
      | exact LeO.none _
      | refine LeO.ite ?_ ?_
      | refine LeO.bind ?_ (fun _ => ?_)
    · intro y0 y1 y2 y3 y4 y5 y6
      unfold topiarylaw12_LexerWrites.j5
      repeat' first
      | (with_reducible exact ih0 _ _ _ _ _ _ _ _)
      | (with_reducible exact ih1 _ _ _ _ _ _ _ _ _ _)
      | (with_reducible exact ih2 _ _ _ _ _ _ _ _ _ _ _)
      | (with_reducible exact ih3 _ _ _ _ _ _ _ _ _ _ _ _)
      | (with_reducible exact ih4 _ _ _ _ _ _)
      | (with_reducible exact ih5 _ _ _ _ _ _ _)
      | (with_reducible exact ih6 _ _ _ _ _ _ _)
      | (with_reducible exact topiarylaw12_has.mono _ _ _)
      | (with_reducible exact topiaryref11_Escape.mono _ _)
      | (with_reducible exact topiaryref11_Valid.mono _ _)
      | (with_reducible exact LeO.refl _)
      | (with_reducible exact LeO.none _)
      | (with_reducible refine LeO.ite ?_ ?_)
      | (with_reducible refine LeO.bind ?_ (fun _ => ?_))
      | exact ih0 _ _ _ _ _ _ _ _
      | exact ih1 _ _ _ _ _ _ _ _ _ _
      | exact ih2 _ _ _ _ _ _ _ _ _ _ _
      | exact ih3 _ _ _ _ _ _ _ _ _ _ _ _
      | exact ih4 _ _ _ _ _ _
      | exact ih5 _ _ _ _ _ _ _
      | exact ih6 _ _ _ _ _ _ _
      | exact topiarylaw12_has.mono _ _ _
      | exact topiaryref11_Escape.mono _ _
      | exact topiaryref11_Valid.mono _ _
      | exact LeO.none _
      | refine LeO.ite ?_ ?_
      | refine LeO.bind ?_ (fun _ => ?_)
    · intro y0 y1 y2 y3 y4 y5 y6
      unfold topiarylaw12_LexerWrites.l2
      repeat' first
      | (with_reducible exact ih0 _ _ _ _ _ _ _ _)
      | (with_reducible exact ih1 _ _ _ _ _ _ _ _ _ _)
      | (with_reducible exact ih2 _ _ _ _ _ _ _ _ _ _ _)
      | (with_reducible exact ih3 _ _ _ _ _ _ _ _ _ _ _ _)
      | (with_reducible exact ih4 _ _ _ _ _ _)
      | (with_reducible exact ih5 _ _ _ _ _ _ _)
      | (with_reducible exact ih6 _ _ _ _ _ _ _)
      | (with_reducible exact topiarylaw12_has.mono _ _ _)
      | (with_reducible exact topiaryref11_Escape.mono _ _)
      | (with_reducible exact topiaryref11_Valid.mono _ _)
      | (with_reducible exact LeO.refl _)
      | (with_reducible exact LeO.none _)
      | (with_reducible refine LeO.ite ?_ ?_)
      | (with_reducible refine LeO.bind ?_ (fun _ => ?_))
      | exact ih0 _ _ _ _ _ _ _ _
      | exact ih1 _ _ _ _ _ _ _ _ _ _
      | exact ih2 _ _ _ _ _ _ _ _ _ _ _
      | exact ih3 _ _ _ _ _ _ _ _ _ _ _ _
      | exact ih4 _ _ _ _ _ _
      | exact ih5 _ _ _ _ _ _ _
      | exact ih6 _ _ _ _ _ _ _
      | exact topiarylaw12_has.mono _ _ _
      | exact topiaryref11_Escape.mono _ _
      | exact topiaryref11_Valid.mono _ _
      | exact LeO.none _
      | refine LeO.ite ?_ ?_
      | refine LeO.bind ?_ (fun _ => ?_)
theorem topiarylaw12_LexerWrites.mono : ∀ a0 a1 a2 a3 k, LeO (topiarylaw12_LexerWrites.f k a0 a1 a2 a3) (topiarylaw12_LexerWrites.f (k + 1) a0 a1 a2 a3) := by
  intro a0 a1 a2 a3 k
  obtain ⟨ih0, ih1, ih2, ih3, ih4, ih5, ih6⟩ := topiarylaw12_LexerWrites.mono_l k
  unfold topiarylaw12_LexerWrites.f
  repeat' first
      | (with_reducible exact ih0 _ _ _ _ _ _ _ _)
      | (with_reducible exact ih1 _ _ _ _ _ _ _ _ _ _)
      | (with_reducible exact ih2 _ _ _ _ _ _ _ _ _ _ _)
      | (with_reducible exact ih3 _ _ _ _ _ _ _ _ _ _ _ _)
      | (with_reducible exact ih4 _ _ _ _ _ _)
      | (with_reducible exact ih5 _ _ _ _ _ _ _)
      | (with_reducible exact ih6 _ _ _ _ _ _ _)
      | (with_reducible exact topiarylaw12_has.mono _ _ _)
      | (with_reducible exact topiaryref11_Escape.mono _ _)
      | (with_reducible exact topiaryref11_Valid.mono _ _)
      | (with_reducible exact LeO.refl _)
      | (with_reducible exact LeO.none _)
      | (with_reducible refine LeO.ite ?_ ?_)
      | (with_reducible refine LeO.bind ?_ (fun _ => ?_))
      | exact ih0 _ _ _ _ _ _ _ _
      | exact ih1 _ _ _ _ _ _ _ _ _ _
      | exact ih2 _ _ _ _ _ _ _ _ _ _ _
      | exact ih3 _ _ _ _ _ _ _ _ _ _ _ _
      | exact ih4 _ _ _ _ _ _
      | exact ih5 _ _ _ _ _ _ _
      | exact ih6 _ _ _ _ _ _ _
      | exact topiarylaw12_has.mono _ _ _
      | exact topiaryref11_Escape.mono _ _
      | exact topiaryref11_Valid.mono _ _
      | exact LeO.none _
      | refine LeO.ite ?_ ?_
      | refine LeO.bind ?_ (fun _ => ?_)
set_option maxHeartbeats 8000000 in
set_option maxRecDepth 100000 in
theorem topiarylaw12_LexerWrites.calls (k : Nat) (A0 : Option Addr) (c0 : Nat) (l0 : List Int) (A1 : Option Addr) (c1 : Nat) (l1 : List ByteArray) (a2_0 : Int) (a2_1 : Int) (r : Bool) (w : World) (hG : G w) (hr0 : Kd.C (Kd.int .u8) w A0 l0.length l0) (hc0 : l0.length ≤ c0) (hr1 : Kd.C Kd.string w A1 l1.length l1) (hc1 : l1.length ≤ c1) (h : topiarylaw12_LexerWrites.f k l0 l1 a2_0 a2_1 = some r) :
    Calls Try.prog 5 #[.slice A0 l0.length c0, .slice A1 l1.length c1, .agg #[.int .i64 a2_0, .int .i64 a2_1]] w fun e w' => e = .returned (.bool r) ∧ Below w.heap.size w w' := by
  have hu34 := Try.underlying34
  have HR0 := Aside0.mk hr0
  have HC0 := Aside0.mk hc0
  clear hr0 hc0
  have HR1 := Aside0.mk hr1
  have HC1 := Aside0.mk hc1
  clear hr1 hc1
  have HB := Aside0.mk (Below.refl w.heap.size w)
  have H : ((topiarylaw12_awake.f).bind fun t166 => (topiarylaw12_LexerWrites.l0 k l0 l1 t166 (⟨#[]⟩ : ByteArray) (Int.tmod a2_0 4) 0 a2_0 a2_1)) = some r := h
  clear h
  replace H := Option.bind_eq_some_iff.mp H
  obtain ⟨t166, A40, H⟩ := H
  replace H : (topiarylaw12_LexerWrites.l0 k l0 l1 t166 (⟨#[]⟩ : ByteArray) (Int.tmod a2_0 4) 0 a2_0 a2_1) = some r := H
  have A4 := Aside0.mk A40
  clear A40
  have H' := Aside0.mk H
  clear H
  go_enter Try.func5, Try.ntmps5
  go_wp2_with (first | ((with_reducible refine gate_dst (N := 5) rfl ?_); (try (refine gate_guard (by rfl) ?_; dsimp only)); refine box_event ?hg (N := 5) ?hd (cs := #[.int .i64 a2_0, .int .i64 a2_1]) (t := 34) ?hr ?_; (case hd => rfl); (case hg => rfl); (case hr => first | (go_simp; done) | (go_simp; rfl)); intro gb165 hg w5 hbox hb; have n0_ := Aside0.mk (below_step (by repeat (first | (with_reducible first | exact HB.out | apply below_alloc | apply pw_below_drewN | apply below_drew1) | exact HB.out)) hb); have n1_ := Aside0.mk (hbox); have n2_ := Aside0.mk ((by rw [hg]; exact (below_size (by repeat (first | (with_reducible first | exact HB.out | apply below_alloc | apply pw_below_drewN | apply below_drew1) | exact HB.out))) : w.heap.size ≤ gb165)); have n3_ := Aside0.mk ((by rw [hg]; exact (below_size (by repeat (first | (with_reducible first | exact HB.out | apply below_alloc | apply pw_below_drewN | apply below_drew1) | exact HB.out))) : w.heap.size ≤ gb165)); clear HB; have HB := n0_; have BK165 := n1_; have GW165 := n2_; have GE165 := n3_; clear n0_ n1_ n2_ n3_; clear hb hbox hg) | (go_at_call 19; (with_reducible refine (topiarylaw12_awake.calls  t166 _ (by first | exact hG | exact G.below hG (by repeat (first | (with_reducible first | exact HB.out | apply below_alloc | apply pw_below_drewN | apply below_drew1 | refine below_set ?_ GE165.out) | exact HB.out))) A4.out).mono ?_); rintro e w6 ⟨rfl, hb⟩; have n0_ := Aside0.mk (blk_below (g := gb165) (o := .cells #[.int .i64 a2_0, .int .i64 a2_1] 34 (0, 0)) (by (with_reducible repeat (first | refine blk_drewN ?_ _ | refine blk_drew ?_ | refine blk_alloc ?_ _)); exact BK165.out) hb); have n1_ := Aside0.mk (below_step (by repeat (first | (with_reducible first | exact HB.out | apply below_alloc | apply pw_below_drewN | apply below_drew1 | refine below_set ?_ GE165.out) | exact HB.out)) hb); clear BK165; clear HB; have BK165 := n0_; have HB := n1_; clear n0_ n1_; (try clear hb); (try clear hb2); (try clear hk); (try clear hi); have hcz7_0 : w6.cell? ⟨gb165, 0, none⟩ = some (.int .i64 a2_0) := (blk_cell BK165.out 0).trans rfl; have hcz7_1 : w6.cell? ⟨gb165, 1, none⟩ = some (.int .i64 a2_1) := (blk_cell BK165.out 1).trans rfl; have hfz7_0 := blk_frozen BK165.out 0; have hfz7_1 := blk_frozen BK165.out 1))
  repeat (go_quiet (first | ((with_reducible refine gate_dst (N := 5) rfl ?_); (try (refine gate_guard (by rfl) ?_; dsimp only)); refine box_event ?hg (N := 5) ?hd (cs := #[.int .i64 a2_0, .int .i64 a2_1]) (t := 34) ?hr ?_; (case hd => rfl); (case hg => rfl); (case hr => first | (go_simp; done) | (go_simp; rfl)); intro gb165 hg w5 hbox hb; have n0_ := Aside0.mk (below_step (by repeat (first | (with_reducible first | exact HB.out | apply below_alloc | apply pw_below_drewN | apply below_drew1) | exact HB.out)) hb); have n1_ := Aside0.mk (hbox); have n2_ := Aside0.mk ((by rw [hg]; exact (below_size (by repeat (first | (with_reducible first | exact HB.out | apply below_alloc | apply pw_below_drewN | apply below_drew1) | exact HB.out))) : w.heap.size ≤ gb165)); have n3_ := Aside0.mk ((by rw [hg]; exact (below_size (by repeat (first | (with_reducible first | exact HB.out | apply below_alloc | apply pw_below_drewN | apply below_drew1) | exact HB.out))) : w.heap.size ≤ gb165)); clear HB; have HB := n0_; have BK165 := n1_; have GW165 := n2_; have GE165 := n3_; clear n0_ n1_ n2_ n3_; clear hb hbox hg) | (go_at_call 19; (with_reducible refine (topiarylaw12_awake.calls  t166 _ (by first | exact hG | exact G.below hG (by repeat (first | (with_reducible first | exact HB.out | apply below_alloc | apply pw_below_drewN | apply below_drew1 | refine below_set ?_ GE165.out) | exact HB.out))) A4.out).mono ?_); rintro e w6 ⟨rfl, hb⟩; have n0_ := Aside0.mk (blk_below (g := gb165) (o := .cells #[.int .i64 a2_0, .int .i64 a2_1] 34 (0, 0)) (by (with_reducible repeat (first | refine blk_drewN ?_ _ | refine blk_drew ?_ | refine blk_alloc ?_ _)); exact BK165.out) hb); have n1_ := Aside0.mk (below_step (by repeat (first | (with_reducible first | exact HB.out | apply below_alloc | apply pw_below_drewN | apply below_drew1 | refine below_set ?_ GE165.out) | exact HB.out)) hb); clear BK165; clear HB; have BK165 := n0_; have HB := n1_; clear n0_ n1_; (try clear hb); (try clear hb2); (try clear hk); (try clear hi); have hcz7_0 : w6.cell? ⟨gb165, 0, none⟩ = some (.int .i64 a2_0) := (blk_cell BK165.out 0).trans rfl; have hcz7_1 : w6.cell? ⟨gb165, 1, none⟩ = some (.int .i64 a2_1) := (blk_cell BK165.out 1).trans rfl; have hfz7_0 := blk_frozen BK165.out 0; have hfz7_1 := blk_frozen BK165.out 1)); try go_wp2_with (first | ((with_reducible refine gate_dst (N := 5) rfl ?_); (try (refine gate_guard (by rfl) ?_; dsimp only)); refine box_event ?hg (N := 5) ?hd (cs := #[.int .i64 a2_0, .int .i64 a2_1]) (t := 34) ?hr ?_; (case hd => rfl); (case hg => rfl); (case hr => first | (go_simp; done) | (go_simp; rfl)); intro gb165 hg w5 hbox hb; have n0_ := Aside0.mk (below_step (by repeat (first | (with_reducible first | exact HB.out | apply below_alloc | apply pw_below_drewN | apply below_drew1) | exact HB.out)) hb); have n1_ := Aside0.mk (hbox); have n2_ := Aside0.mk ((by rw [hg]; exact (below_size (by repeat (first | (with_reducible first | exact HB.out | apply below_alloc | apply pw_below_drewN | apply below_drew1) | exact HB.out))) : w.heap.size ≤ gb165)); have n3_ := Aside0.mk ((by rw [hg]; exact (below_size (by repeat (first | (with_reducible first | exact HB.out | apply below_alloc | apply pw_below_drewN | apply below_drew1) | exact HB.out))) : w.heap.size ≤ gb165)); clear HB; have HB := n0_; have BK165 := n1_; have GW165 := n2_; have GE165 := n3_; clear n0_ n1_ n2_ n3_; clear hb hbox hg) | (go_at_call 19; (with_reducible refine (topiarylaw12_awake.calls  t166 _ (by first | exact hG | exact G.below hG (by repeat (first | (with_reducible first | exact HB.out | apply below_alloc | apply pw_below_drewN | apply below_drew1 | refine below_set ?_ GE165.out) | exact HB.out))) A4.out).mono ?_); rintro e w6 ⟨rfl, hb⟩; have n0_ := Aside0.mk (blk_below (g := gb165) (o := .cells #[.int .i64 a2_0, .int .i64 a2_1] 34 (0, 0)) (by (with_reducible repeat (first | refine blk_drewN ?_ _ | refine blk_drew ?_ | refine blk_alloc ?_ _)); exact BK165.out) hb); have n1_ := Aside0.mk (below_step (by repeat (first | (with_reducible first | exact HB.out | apply below_alloc | apply pw_below_drewN | apply below_drew1 | refine below_set ?_ GE165.out) | exact HB.out)) hb); clear BK165; clear HB; have BK165 := n0_; have HB := n1_; clear n0_ n1_; (try clear hb); (try clear hb2); (try clear hk); (try clear hi); have hcz7_0 : w6.cell? ⟨gb165, 0, none⟩ = some (.int .i64 a2_0) := (blk_cell BK165.out 0).trans rfl; have hcz7_1 : w6.cell? ⟨gb165, 1, none⟩ = some (.int .i64 a2_1) := (blk_cell BK165.out 1).trans rfl; have hfz7_0 := blk_frozen BK165.out 0; have hfz7_1 := blk_frozen BK165.out 1)))
  go_loopg [8, 10] k (fun kq v8 v10 w' => ∃ (x8_1 : ByteArray) (x10_1 : Int), v8 = .string x8_1 ∧ v10 = .int .i64 x10_1 ∧ Aside0 (topiarylaw12_LexerWrites.l0 kq l0 l1 t166 x8_1 (Int.tmod a2_0 4) x10_1 a2_0 a2_1 = some r) ∧ Aside0 (kq ≤ k) ∧ Aside0 (w'.heap[gb165]? = some (.cells #[.int .i64 a2_0, .int .i64 a2_1] 34 (0, 0))) ∧ Aside0 (Below w.heap.size w w'))
  case atStart => exact ⟨((⟨#[]⟩ : ByteArray)), (0), (by first | rfl | (simp; done) | (simp [*]; done)), (by first | rfl | (simp; done) | (simp [*]; done)), H', ⟨Nat.le_refl _⟩, ⟨by (with_reducible repeat (first | refine blk_drewN ?_ _ | refine blk_drew ?_ | refine blk_alloc ?_ _)); exact BK165.out⟩, ⟨by repeat (first | (with_reducible first | exact HB.out | apply below_alloc | apply pw_below_drewN | apply below_drew1 | refine below_set ?_ GE165.out) | exact HB.out)⟩⟩
  case round =>
    clear H'
    try clear c1
    try clear p2
    try clear c5
    try clear hcz7_0
    try clear hcz7_1
    try clear hfz7_0
    try clear hfz7_1
    obtain ⟨x8_1, x10_1, rfl, rfl, HA, HK1, BK165, HB⟩ := hrel
    cases gk with
    | zero => exact absurd HA.out (by simp [topiarylaw12_LexerWrites.l0])
    | succ k1 =>
      have H := HA.out
      clear HA
      simp only [topiarylaw12_LexerWrites.l0] at H
      by_cases c8 : x10_1 < (Int.tmod a2_0 4)
      · rw [if_pos c8] at H
        have c8b0 : decide (x10_1 < (Int.tmod a2_0 4)) = true := decide_eq_true c8
        clear c8
        by_cases c9 : 0 ≤ x10_1
        · rw [if_pos c9] at H
          have c9b0 := eq_true c9
          have c9b1 : decide (0 ≤ x10_1) = true := decide_eq_true c9
          clear c9
          by_cases c10 : x10_1 ≤ (wrap64 (x10_1 + 1))
          · rw [if_pos c10] at H
            have c10b0 := eq_true c10
            have c10b1 : decide (x10_1 ≤ (wrap64 (x10_1 + 1))) = true := decide_eq_true c10
            by_cases c11 : (wrap64 (x10_1 + 1)) ≤ 3
            · rw [if_pos c11] at H
              have c11b0 := eq_true c11
              have c11b1 : decide ((wrap64 (x10_1 + 1)) ≤ 3) = true := decide_eq_true c11
              by_cases c12 : x8_1.size + ((⟨#[32, 10, 9]⟩ : ByteArray).extract (x10_1 : Int).toNat ((wrap64 (x10_1 + 1)) : Int).toNat).size ≤ 9223372036854775807
              · rw [if_pos c12] at H
                have c12b0 := eq_true c12
                have c12b1 : decide (x8_1.size + ((⟨#[32, 10, 9]⟩ : ByteArray).extract (x10_1 : Int).toNat ((wrap64 (x10_1 + 1)) : Int).toNat).size ≤ 9223372036854775807) = true := decide_eq_true c12
                try have c12b2 : (9223372036854775807 < x8_1.size + ((⟨#[32, 10, 9]⟩ : ByteArray).extract (x10_1 : Int).toNat ((wrap64 (x10_1 + 1)) : Int).toNat).size) = False := eq_false (Nat.not_lt.2 c12)
                have H' := Aside0.mk H
                clear H
                go_wp2
                repeat (go_quiet (fail); try go_wp2)
                go_roundg k1
                case measure => have := HK1.out; omega
                case rel => exact ⟨(x8_1 ++ ((⟨#[32, 10, 9]⟩ : ByteArray).extract (x10_1 : Int).toNat ((wrap64 (x10_1 + 1)) : Int).toNat)), (wrap64 (x10_1 + 1)), (by first | rfl | (simp; done) | (simp [*]; done)), (by first | rfl | (simp; done) | (simp [*]; done)), H', ⟨by have := HK1.out; omega⟩, ⟨by (with_reducible repeat (first | refine blk_drewN ?_ _ | refine blk_drew ?_ | refine blk_alloc ?_ _)); exact BK165.out⟩, ⟨by repeat (first | (with_reducible first | exact HB.out | apply below_alloc | apply pw_below_drewN | apply below_drew1 | refine below_set ?_ GE165.out) | exact HB.out)⟩⟩
              · rw [if_neg c12] at H
                exact absurd H (by simp)
            · rw [if_neg c11] at H
              exact absurd H (by simp)
          · rw [if_neg c10] at H
            exact absurd H (by simp)
        · rw [if_neg c9] at H
          exact absurd H (by simp)
      · rw [if_neg c8] at H
        have c8b0 : decide (x10_1 < (Int.tmod a2_0 4)) = false := decide_eq_false c8
        clear c8
        have H' := Aside0.mk H
        clear H
        go_wp2
        repeat (go_quiet (fail); try go_wp2)
        go_loopg [11, 12, 13, 14] k1 (fun kq v11 v12 v13 v14 w' => ∃ (x11_2 : ByteArray) (x12_2 : List ByteArray) (x13_2 : List ByteArray) (x14_2 : Int), v11 = .string x11_2 ∧ v14 = .int .i64 x14_2 ∧ Aside0 (topiarylaw12_LexerWrites.l1 kq l0 l1 t166 x8_1 x11_2 x12_2 x13_2 x14_2 a2_0 a2_1 = some r) ∧ Aside0 (kq ≤ k1) ∧ Aside0 (Kd.R Kd.string 9 w' w.heap.size (fun k_ => some k_ ≠ (v13 : Value).ownBlock) v12 x12_2) ∧ Aside0 (Kd.R Kd.string 9 w' w.heap.size (fun k_ => some k_ ≠ (v12 : Value).ownBlock) v13 x13_2) ∧ Aside0 (w'.heap[gb165]? = some (.cells #[.int .i64 a2_0, .int .i64 a2_1] 34 (0, 0))) ∧ Aside0 (Below w.heap.size w w'))
        case atStart => exact ⟨((⟨#[60, 116]⟩ : ByteArray)), (([] : List ByteArray)), (([] : List ByteArray)), (0), (by first | rfl | (simp; done) | (simp [*]; done)), (by first | rfl | (simp; done) | (simp [*]; done)), H', ⟨Nat.le_refl _⟩, ⟨by first | exact Kd.R_nil _ _ _ _ _ | exact Kd.N_nil _ _ _ _ _ | exact Kd.V_nil _ _ _ _ _ | exact Kd.Q_nil _ _ _ _ _ | exact Kd.S_nil _ _ _ _ _⟩, ⟨by first | exact Kd.R_nil _ _ _ _ _ | exact Kd.N_nil _ _ _ _ _ | exact Kd.V_nil _ _ _ _ _ | exact Kd.Q_nil _ _ _ _ _ | exact Kd.S_nil _ _ _ _ _⟩, ⟨by (with_reducible repeat (first | refine blk_drewN ?_ _ | refine blk_drew ?_ | refine blk_alloc ?_ _)); exact BK165.out⟩, ⟨by repeat (first | (with_reducible first | exact HB.out | apply below_alloc | apply pw_below_drewN | apply below_drew1 | refine below_set ?_ GE165.out) | exact HB.out)⟩⟩
        case round =>
          clear H'
          try clear c1
          try clear p2
          try clear c5
          try clear p6
          try clear c8
          try clear c8b0
          try clear c9
          try clear c9b0
          try clear c9b1
          try clear c10
          try clear c10b0
          try clear c10b1
          try clear c11
          try clear c11b0
          try clear c11b1
          try clear c12
          try clear c12b0
          try clear c12b1
          try clear c12b2
          try clear hcz7_0
          try clear hcz7_1
          try clear hfz7_0
          try clear hfz7_1
          try clear p2
          obtain ⟨x11_2, x12_2, x13_2, x14_2, rfl, rfl, HA, HK2, HO_12, HO_13, BK165, HB⟩ := hrel
          cases gk with
          | zero => exact absurd HA.out (by simp [topiarylaw12_LexerWrites.l1])
          | succ k2 =>
            have H := HA.out
            clear HA
            simp only [topiarylaw12_LexerWrites.l1] at H
            have HC13 := Aside0.mk H
            clear H
            go_upto_region 12 with (fail)
            repeat (go_quiet (fail); go_upto_region 12 with (fail))
            go_cut [50] (fun v50 wc => ∃ (kq : Nat) (x50_12 : Bool), v50 = .bool x50_12 ∧ Aside0 (topiarylaw12_LexerWrites.j2 kq l0 l1 t166 x8_1 x11_2 x12_2 x13_2 x14_2 x50_12 a2_0 a2_1 = some r) ∧ Aside0 (kq ≤ k2) ∧ Aside0 (Kd.R Kd.string 9 wc w.heap.size (fun k_ => some k_ ≠ (u13 : Value).ownBlock) u12 x12_2) ∧ Aside0 (Kd.R Kd.string 9 wc w.heap.size (fun k_ => some k_ ≠ (u12 : Value).ownBlock) u13 x13_2) ∧ Aside0 (wc.heap[gb165]? = some (.cells #[.int .i64 a2_0, .int .i64 a2_1] 34 (0, 0))) ∧ Aside0 (Below w.heap.size w wc))
            case first =>
              have H := HC13.out
              clear HC13
              by_cases c14 : x14_2 < (l0.length : Int)
              · rw [if_pos c14] at H
                have c14b0 : decide (x14_2 < (l0.length : Int)) = true := decide_eq_true c14
                clear c14
                (first | rw [c14b0] | (simp only [i64_w, i32_w]; rw [c14b0]) | skip)
                by_cases c15 : x14_2 < (l1.length : Int)
                · rw [if_pos c15] at H
                  have c15b0 : decide (x14_2 < (l1.length : Int)) = true := decide_eq_true c15
                  clear c15
                  have H' := Aside0.mk H
                  clear H
                  go_wp2
                  repeat (go_quiet (fail); try go_wp2)
                  go_meet
                  case rel => exact ⟨_, (decide (x14_2 < 6)), (by first | rfl | (simp; done) | (simp [*]; done)), H', ⟨by have := HK1.out; have := HK2.out; first | omega | exact Nat.le_refl _⟩, ⟨by (with_reducible repeat (first | apply Kd.R_alloc | apply Kd.R_drewN | apply Kd.R_drew)); exact HO_12.out⟩, ⟨by (with_reducible repeat (first | apply Kd.R_alloc | apply Kd.R_drewN | apply Kd.R_drew)); exact HO_13.out⟩, ⟨by (with_reducible repeat (first | refine blk_drewN ?_ _ | refine blk_drew ?_ | refine blk_alloc ?_ _)); exact BK165.out⟩, ⟨by repeat (first | (with_reducible first | exact HB.out | apply below_alloc | apply pw_below_drewN | apply below_drew1 | refine below_set ?_ GE165.out) | exact HB.out)⟩⟩
                · rw [if_neg c15] at H
                  have c15b0 : decide (x14_2 < (l1.length : Int)) = false := decide_eq_false c15
                  clear c15
                  have H' := Aside0.mk H
                  clear H
                  go_wp2
                  repeat (go_quiet (fail); try go_wp2)
                  go_meet
                  case rel => exact ⟨_, (false), (by first | rfl | (simp; done) | (simp [*]; done)), H', ⟨by have := HK1.out; have := HK2.out; first | omega | exact Nat.le_refl _⟩, ⟨by (with_reducible repeat (first | apply Kd.R_alloc | apply Kd.R_drewN | apply Kd.R_drew)); exact HO_12.out⟩, ⟨by (with_reducible repeat (first | apply Kd.R_alloc | apply Kd.R_drewN | apply Kd.R_drew)); exact HO_13.out⟩, ⟨by (with_reducible repeat (first | refine blk_drewN ?_ _ | refine blk_drew ?_ | refine blk_alloc ?_ _)); exact BK165.out⟩, ⟨by repeat (first | (with_reducible first | exact HB.out | apply below_alloc | apply pw_below_drewN | apply below_drew1 | refine below_set ?_ GE165.out) | exact HB.out)⟩⟩
              · rw [if_neg c14] at H
                have c14b0 : decide (x14_2 < (l0.length : Int)) = false := decide_eq_false c14
                clear c14
                (first | rw [c14b0] | (simp only [i64_w, i32_w]; rw [c14b0]) | skip)
                have H' := Aside0.mk H
                clear H
                go_wp2
                repeat (go_quiet (fail); try go_wp2)
                go_meet
                case rel => exact ⟨_, (false), (by first | rfl | (simp; done) | (simp [*]; done)), H', ⟨by have := HK1.out; have := HK2.out; first | omega | exact Nat.le_refl _⟩, ⟨by (with_reducible repeat (first | apply Kd.R_alloc | apply Kd.R_drewN | apply Kd.R_drew)); exact HO_12.out⟩, ⟨by (with_reducible repeat (first | apply Kd.R_alloc | apply Kd.R_drewN | apply Kd.R_drew)); exact HO_13.out⟩, ⟨by (with_reducible repeat (first | refine blk_drewN ?_ _ | refine blk_drew ?_ | refine blk_alloc ?_ _)); exact BK165.out⟩, ⟨by repeat (first | (with_reducible first | exact HB.out | apply below_alloc | apply pw_below_drewN | apply below_drew1 | refine below_set ?_ GE165.out) | exact HB.out)⟩⟩
            case rest =>
              clear HC13
              try clear c1
              try clear p2
              try clear c5
              try clear p6
              try clear c8
              try clear c8b0
              try clear c9
              try clear c9b0
              try clear c9b1
              try clear c10
              try clear c10b0
              try clear c10b1
              try clear c11
              try clear c11b0
              try clear c11b1
              try clear c12
              try clear c12b0
              try clear c12b1
              try clear c12b2
              try clear c14
              try clear c14b0
              try clear c15
              try clear c15b0
              try clear hcz7_0
              try clear hcz7_1
              try clear hfz7_0
              try clear hfz7_1
              try clear p2
              try clear p6
              obtain ⟨kq, x50_12, rfl, HA, HJ12, HO_12, HO_13, BK165, HB⟩ := hcut
              cases kq with
              | zero => exact absurd HA.out (by simp [topiarylaw12_LexerWrites.j2])
              | succ kj12 =>
                have H := HA.out
                clear HA
                simp only [topiarylaw12_LexerWrites.j2] at H
                by_cases c16 : x50_12 = true
                · subst c16
                  have H1 : (if 0 ≤ x14_2 then (if x14_2 < (l0.length : Int) then ((some (([(97 + (Int.tmod (rd l0 x14_2) 26)) % 256] : List Int) : List Int)).bind fun y168 => (if 1 + (strOfNums y168).size ≤ 9223372036854775807 then (if x14_2 < (l1.length : Int) then ((topiarylaw12_short.f (rdOf ByteArray.empty l1 x14_2) 10).bind fun t172 => ((topiaryref11_Valid.f kj12 t172).bind fun t173 => (if t173 = true then (topiarylaw12_LexerWrites.j3 kj12 l0 l1 t166 x8_1 x11_2 x12_2 x13_2 x14_2 ((⟨#[110]⟩ : ByteArray) ++ (strOfNums y168)) t172 a2_0 a2_1) else (topiarylaw12_LexerWrites.j3 kj12 l0 l1 t166 x8_1 x11_2 x12_2 x13_2 x14_2 ((⟨#[110]⟩ : ByteArray) ++ (strOfNums y168)) (⟨#[118]⟩ : ByteArray) a2_0 a2_1)))) else (none)) else (none))) else (none)) else (none)) = some r := by rw [if_pos rfl] at H; exact H
                  clear H
                  have H := H1
                  clear H1
                  by_cases c17 : 0 ≤ x14_2
                  · rw [if_pos c17] at H
                    have c17b0 : decide (0 ≤ x14_2) = true := decide_eq_true c17
                    clear c17
                    by_cases c18 : x14_2 < (l0.length : Int)
                    · rw [if_pos c18] at H
                      have c18b0 : decide (x14_2 < (l0.length : Int)) = true := decide_eq_true c18
                      clear c18
                      obtain ⟨y168, hy168⟩ : ∃ y_ : List Int, y_ = (([(97 + (Int.tmod (rd l0 x14_2) 26)) % 256] : List Int)) := ⟨_, rfl⟩
                      replace H : (if 1 + (strOfNums y168).size ≤ 9223372036854775807 then (if x14_2 < (l1.length : Int) then ((topiarylaw12_short.f (rdOf ByteArray.empty l1 x14_2) 10).bind fun t172 => ((topiaryref11_Valid.f kj12 t172).bind fun t173 => (if t173 = true then (topiarylaw12_LexerWrites.j3 kj12 l0 l1 t166 x8_1 x11_2 x12_2 x13_2 x14_2 ((⟨#[110]⟩ : ByteArray) ++ (strOfNums y168)) t172 a2_0 a2_1) else (topiarylaw12_LexerWrites.j3 kj12 l0 l1 t166 x8_1 x11_2 x12_2 x13_2 x14_2 ((⟨#[110]⟩ : ByteArray) ++ (strOfNums y168)) (⟨#[118]⟩ : ByteArray) a2_0 a2_1)))) else (none)) else (none)) = some r := by first | (rw [hy168]; with_reducible exact H) | (have H2_ := (Option.bind_some _ _).symm.trans H; rw [hy168]; with_reducible exact H2_) | (have H2_ := (Option.bind_some _ _).symm.trans H; with_reducible exact H2_) | with_reducible exact H | (rw [hy168]; exact H) | exact H
                      have Ny168 := Aside0.mk hy168
                      clear hy168
                      by_cases c19 : 1 + (strOfNums y168).size ≤ 9223372036854775807
                      · rw [if_pos c19] at H
                        have c19b0 := eq_true c19
                        have c19b1 : decide (1 + (strOfNums y168).size ≤ 9223372036854775807) = true := decide_eq_true c19
                        try have c19b2 : (9223372036854775807 < 1 + (strOfNums y168).size) = False := eq_false (Nat.not_lt.2 c19)
                        by_cases c20 : x14_2 < (l1.length : Int)
                        · rw [if_pos c20] at H
                          have c20b0 : decide (x14_2 < (l1.length : Int)) = true := decide_eq_true c20
                          clear c20
                          replace H := Option.bind_eq_some_iff.mp H
                          obtain ⟨t172, A210, H⟩ := H
                          replace H : ((topiaryref11_Valid.f kj12 t172).bind fun t173 => (if t173 = true then (topiarylaw12_LexerWrites.j3 kj12 l0 l1 t166 x8_1 x11_2 x12_2 x13_2 x14_2 ((⟨#[110]⟩ : ByteArray) ++ (strOfNums y168)) t172 a2_0 a2_1) else (topiarylaw12_LexerWrites.j3 kj12 l0 l1 t166 x8_1 x11_2 x12_2 x13_2 x14_2 ((⟨#[110]⟩ : ByteArray) ++ (strOfNums y168)) (⟨#[118]⟩ : ByteArray) a2_0 a2_1))) = some r := H
                          have A21 := Aside0.mk A210
                          clear A210
                          replace H := Option.bind_eq_some_iff.mp H
                          obtain ⟨t173, A220, H⟩ := H
                          replace H : (if t173 = true then (topiarylaw12_LexerWrites.j3 kj12 l0 l1 t166 x8_1 x11_2 x12_2 x13_2 x14_2 ((⟨#[110]⟩ : ByteArray) ++ (strOfNums y168)) t172 a2_0 a2_1) else (topiarylaw12_LexerWrites.j3 kj12 l0 l1 t166 x8_1 x11_2 x12_2 x13_2 x14_2 ((⟨#[110]⟩ : ByteArray) ++ (strOfNums y168)) (⟨#[118]⟩ : ByteArray) a2_0 a2_1)) = some r := H
                          have A22 := Aside0.mk A220
                          clear A220
                          have HC23 := Aside0.mk H
                          clear H
                          have p167 : 0 ≤ (x14_2 : Int) := of_decide_eq_true (by first | (with_reducible assumption) | assumption)
                          have q167 : x14_2 < (l0.length : Int) := of_decide_eq_true (by first | (with_reducible assumption) | assumption)
                          obtain ⟨ad167, e167, hx167_0⟩ := Kd.at_int HR0.out x14_2 p167 q167
                          cases e167
                          replace hx167_0 := (HB.out.cell (World.block_lt_of_cell? w _ hx167_0)).trans hx167_0
                          replace p167 := eq_true p167
                          replace q167 := eq_true q167
                          go_upto_if 69 with (first | ((with_reducible refine gate_dst (N := 59) rfl ?_); (try (refine gate_guard (by rfl) ?_; dsimp only)); refine Kd.R_lit (Kd.int .u8) _ 5 ?hg (N := 59) ?hd (xs := ([(97 + (Int.tmod (rd l0 x14_2) 26)) % 256] : List Int)) (inner := [.int .u8 ((97 + (Int.tmod (rd l0 x14_2) 26)) % 256)]) (ok := fun _ => True) (okp := fun _ => True) ?hr ?hp (fun _ hk => hk) trivial (Below.refl _ _) (Nat.le_refl _) (by simp) ?_; (case hd => rfl); (case hg => rfl); (case hr => first | (go_simp; done) | (go_simp; rfl)); (case hp => exact (Reps.one (show Kd.M (Kd.int .u8) _ _ _ ((97 + (Int.tmod (rd l0 x14_2) 26)) % 256) [.int .u8 ((97 + (Int.tmod (rd l0 x14_2) 26)) % 256)] from rfl) (Reps.none _ _))); intro v169 w24 ho25 hb hg_ hnew_; clear hg_ hnew_; (first | rw [← Ny168.out] at ho25 | (simp only [Int.reduceToNat] at ho25; rw [← Ny168.out] at ho25)); have n0_ := Aside0.mk (Kd.R_below (by (with_reducible repeat (first | apply Kd.R_alloc | apply Kd.R_drewN | apply Kd.R_drew)); exact HO_12.out) hb); have n1_ := Aside0.mk (Kd.R_below (by (with_reducible repeat (first | apply Kd.R_alloc | apply Kd.R_drewN | apply Kd.R_drew)); exact HO_13.out) hb); have n2_ := Aside0.mk (Kd.R_lower ho25 (below_size (by repeat (first | (with_reducible first | exact HB.out | apply below_alloc | apply pw_below_drewN | apply below_drew1 | refine below_set ?_ GE165.out) | exact HB.out)))); have n3_ := Aside0.mk (blk_below (g := gb165) (o := .cells #[.int .i64 a2_0, .int .i64 a2_1] 34 (0, 0)) (by (with_reducible repeat (first | refine blk_drewN ?_ _ | refine blk_drew ?_ | refine blk_alloc ?_ _)); exact BK165.out) hb); have n4_ := Aside0.mk (below_step (by repeat (first | (with_reducible first | exact HB.out | apply below_alloc | apply pw_below_drewN | apply below_drew1 | refine below_set ?_ GE165.out) | exact HB.out)) hb); clear HO_12; clear HO_13; clear BK165; clear HB; have HO_12 := n0_; have HO_13 := n1_; have HO170 := n2_; have BK165 := n3_; have HB := n4_; clear n0_ n1_ n2_ n3_ n4_; clear hb ho25; have hcv26 := own_string (P := Try.prog) Try.underlying32 Try.underlying5 Try.underlying9 (Kd.own_of_R HO170.out); have p171 : 0 ≤ (x14_2 : Int) := of_decide_eq_true (by first | (with_reducible assumption) | assumption); have q171 : x14_2 < (l1.length : Int) := of_decide_eq_true (by first | (with_reducible assumption) | assumption); obtain ⟨ad171, e171, hx171_0⟩ := Kd.at_string HR1.out x14_2 p171 q171; cases e171; replace hx171_0 := (HB.out.cell (World.block_lt_of_cell? w _ hx171_0)).trans hx171_0; replace p171 := eq_true p171; replace q171 := eq_true q171) | (go_at_call 20; (with_reducible refine (topiarylaw12_short.calls (rdOf ByteArray.empty l1 x14_2) 10 t172 _ A21.out).mono ?_); rintro e w' ⟨rfl, ⟨nd, rfl⟩⟩; (try first | exact ⟨rfl, _, World.drewN_drewN _ _ _⟩ | exact ⟨rfl, _, Eq.trans (World.drewN_drewN _ _ _) (congrArg (World.drewN _) (Nat.add_assoc _ _ _))⟩)) | (go_at_call 21; (with_reducible refine (topiaryref11_Valid.calls kj12 t172 t173 _ A22.out).mono ?_); rintro e w27 ⟨rfl, hb⟩; have n0_ := Aside0.mk (Kd.R_below (by (with_reducible repeat (first | apply Kd.R_alloc | apply Kd.R_drewN | apply Kd.R_drew)); exact HO_12.out) hb); have n1_ := Aside0.mk (Kd.R_below (by (with_reducible repeat (first | apply Kd.R_alloc | apply Kd.R_drewN | apply Kd.R_drew)); exact HO_13.out) hb); have n2_ := Aside0.mk (Kd.R_below (by (with_reducible repeat (first | apply Kd.R_alloc | apply Kd.R_drewN | apply Kd.R_drew)); exact HO170.out) hb); have n3_ := Aside0.mk (blk_below (g := gb165) (o := .cells #[.int .i64 a2_0, .int .i64 a2_1] 34 (0, 0)) (by (with_reducible repeat (first | refine blk_drewN ?_ _ | refine blk_drew ?_ | refine blk_alloc ?_ _)); exact BK165.out) hb); have n4_ := Aside0.mk (below_step (by repeat (first | (with_reducible first | exact HB.out | apply below_alloc | apply pw_below_drewN | apply below_drew1 | refine below_set ?_ GE165.out) | exact HB.out)) hb); clear HO_12; clear HO_13; clear HO170; clear BK165; clear HB; have HO_12 := n0_; have HO_13 := n1_; have HO170 := n2_; have BK165 := n3_; have HB := n4_; clear n0_ n1_ n2_ n3_ n4_; (try clear hb); (try clear hb2); (try clear hk); (try clear hi)))
                          repeat (go_quiet (first | ((with_reducible refine gate_dst (N := 59) rfl ?_); (try (refine gate_guard (by rfl) ?_; dsimp only)); refine Kd.R_lit (Kd.int .u8) _ 5 ?hg (N := 59) ?hd (xs := ([(97 + (Int.tmod (rd l0 x14_2) 26)) % 256] : List Int)) (inner := [.int .u8 ((97 + (Int.tmod (rd l0 x14_2) 26)) % 256)]) (ok := fun _ => True) (okp := fun _ => True) ?hr ?hp (fun _ hk => hk) trivial (Below.refl _ _) (Nat.le_refl _) (by simp) ?_; (case hd => rfl); (case hg => rfl); (case hr => first | (go_simp; done) | (go_simp; rfl)); (case hp => exact (Reps.one (show Kd.M (Kd.int .u8) _ _ _ ((97 + (Int.tmod (rd l0 x14_2) 26)) % 256) [.int .u8 ((97 + (Int.tmod (rd l0 x14_2) 26)) % 256)] from rfl) (Reps.none _ _))); intro v169 w24 ho25 hb hg_ hnew_; clear hg_ hnew_; (first | rw [← Ny168.out] at ho25 | (simp only [Int.reduceToNat] at ho25; rw [← Ny168.out] at ho25)); have n0_ := Aside0.mk (Kd.R_below (by (with_reducible repeat (first | apply Kd.R_alloc | apply Kd.R_drewN | apply Kd.R_drew)); exact HO_12.out) hb); have n1_ := Aside0.mk (Kd.R_below (by (with_reducible repeat (first | apply Kd.R_alloc | apply Kd.R_drewN | apply Kd.R_drew)); exact HO_13.out) hb); have n2_ := Aside0.mk (Kd.R_lower ho25 (below_size (by repeat (first | (with_reducible first | exact HB.out | apply below_alloc | apply pw_below_drewN | apply below_drew1 | refine below_set ?_ GE165.out) | exact HB.out)))); have n3_ := Aside0.mk (blk_below (g := gb165) (o := .cells #[.int .i64 a2_0, .int .i64 a2_1] 34 (0, 0)) (by (with_reducible repeat (first | refine blk_drewN ?_ _ | refine blk_drew ?_ | refine blk_alloc ?_ _)); exact BK165.out) hb); have n4_ := Aside0.mk (below_step (by repeat (first | (with_reducible first | exact HB.out | apply below_alloc | apply pw_below_drewN | apply below_drew1 | refine below_set ?_ GE165.out) | exact HB.out)) hb); clear HO_12; clear HO_13; clear BK165; clear HB; have HO_12 := n0_; have HO_13 := n1_; have HO170 := n2_; have BK165 := n3_; have HB := n4_; clear n0_ n1_ n2_ n3_ n4_; clear hb ho25; have hcv26 := own_string (P := Try.prog) Try.underlying32 Try.underlying5 Try.underlying9 (Kd.own_of_R HO170.out); have p171 : 0 ≤ (x14_2 : Int) := of_decide_eq_true (by first | (with_reducible assumption) | assumption); have q171 : x14_2 < (l1.length : Int) := of_decide_eq_true (by first | (with_reducible assumption) | assumption); obtain ⟨ad171, e171, hx171_0⟩ := Kd.at_string HR1.out x14_2 p171 q171; cases e171; replace hx171_0 := (HB.out.cell (World.block_lt_of_cell? w _ hx171_0)).trans hx171_0; replace p171 := eq_true p171; replace q171 := eq_true q171) | (go_at_call 20; (with_reducible refine (topiarylaw12_short.calls (rdOf ByteArray.empty l1 x14_2) 10 t172 _ A21.out).mono ?_); rintro e w' ⟨rfl, ⟨nd, rfl⟩⟩; (try first | exact ⟨rfl, _, World.drewN_drewN _ _ _⟩ | exact ⟨rfl, _, Eq.trans (World.drewN_drewN _ _ _) (congrArg (World.drewN _) (Nat.add_assoc _ _ _))⟩)) | (go_at_call 21; (with_reducible refine (topiaryref11_Valid.calls kj12 t172 t173 _ A22.out).mono ?_); rintro e w27 ⟨rfl, hb⟩; have n0_ := Aside0.mk (Kd.R_below (by (with_reducible repeat (first | apply Kd.R_alloc | apply Kd.R_drewN | apply Kd.R_drew)); exact HO_12.out) hb); have n1_ := Aside0.mk (Kd.R_below (by (with_reducible repeat (first | apply Kd.R_alloc | apply Kd.R_drewN | apply Kd.R_drew)); exact HO_13.out) hb); have n2_ := Aside0.mk (Kd.R_below (by (with_reducible repeat (first | apply Kd.R_alloc | apply Kd.R_drewN | apply Kd.R_drew)); exact HO170.out) hb); have n3_ := Aside0.mk (blk_below (g := gb165) (o := .cells #[.int .i64 a2_0, .int .i64 a2_1] 34 (0, 0)) (by (with_reducible repeat (first | refine blk_drewN ?_ _ | refine blk_drew ?_ | refine blk_alloc ?_ _)); exact BK165.out) hb); have n4_ := Aside0.mk (below_step (by repeat (first | (with_reducible first | exact HB.out | apply below_alloc | apply pw_below_drewN | apply below_drew1 | refine below_set ?_ GE165.out) | exact HB.out)) hb); clear HO_12; clear HO_13; clear HO170; clear BK165; clear HB; have HO_12 := n0_; have HO_13 := n1_; have HO170 := n2_; have BK165 := n3_; have HB := n4_; clear n0_ n1_ n2_ n3_ n4_; (try clear hb); (try clear hb2); (try clear hk); (try clear hi))); go_upto_if 69 with (first | ((with_reducible refine gate_dst (N := 59) rfl ?_); (try (refine gate_guard (by rfl) ?_; dsimp only)); refine Kd.R_lit (Kd.int .u8) _ 5 ?hg (N := 59) ?hd (xs := ([(97 + (Int.tmod (rd l0 x14_2) 26)) % 256] : List Int)) (inner := [.int .u8 ((97 + (Int.tmod (rd l0 x14_2) 26)) % 256)]) (ok := fun _ => True) (okp := fun _ => True) ?hr ?hp (fun _ hk => hk) trivial (Below.refl _ _) (Nat.le_refl _) (by simp) ?_; (case hd => rfl); (case hg => rfl); (case hr => first | (go_simp; done) | (go_simp; rfl)); (case hp => exact (Reps.one (show Kd.M (Kd.int .u8) _ _ _ ((97 + (Int.tmod (rd l0 x14_2) 26)) % 256) [.int .u8 ((97 + (Int.tmod (rd l0 x14_2) 26)) % 256)] from rfl) (Reps.none _ _))); intro v169 w24 ho25 hb hg_ hnew_; clear hg_ hnew_; (first | rw [← Ny168.out] at ho25 | (simp only [Int.reduceToNat] at ho25; rw [← Ny168.out] at ho25)); have n0_ := Aside0.mk (Kd.R_below (by (with_reducible repeat (first | apply Kd.R_alloc | apply Kd.R_drewN | apply Kd.R_drew)); exact HO_12.out) hb); have n1_ := Aside0.mk (Kd.R_below (by (with_reducible repeat (first | apply Kd.R_alloc | apply Kd.R_drewN | apply Kd.R_drew)); exact HO_13.out) hb); have n2_ := Aside0.mk (Kd.R_lower ho25 (below_size (by repeat (first | (with_reducible first | exact HB.out | apply below_alloc | apply pw_below_drewN | apply below_drew1 | refine below_set ?_ GE165.out) | exact HB.out)))); have n3_ := Aside0.mk (blk_below (g := gb165) (o := .cells #[.int .i64 a2_0, .int .i64 a2_1] 34 (0, 0)) (by (with_reducible repeat (first | refine blk_drewN ?_ _ | refine blk_drew ?_ | refine blk_alloc ?_ _)); exact BK165.out) hb); have n4_ := Aside0.mk (below_step (by repeat (first | (with_reducible first | exact HB.out | apply below_alloc | apply pw_below_drewN | apply below_drew1 | refine below_set ?_ GE165.out) | exact HB.out)) hb); clear HO_12; clear HO_13; clear BK165; clear HB; have HO_12 := n0_; have HO_13 := n1_; have HO170 := n2_; have BK165 := n3_; have HB := n4_; clear n0_ n1_ n2_ n3_ n4_; clear hb ho25; have hcv26 := own_string (P := Try.prog) Try.underlying32 Try.underlying5 Try.underlying9 (Kd.own_of_R HO170.out); have p171 : 0 ≤ (x14_2 : Int) := of_decide_eq_true (by first | (with_reducible assumption) | assumption); have q171 : x14_2 < (l1.length : Int) := of_decide_eq_true (by first | (with_reducible assumption) | assumption); obtain ⟨ad171, e171, hx171_0⟩ := Kd.at_string HR1.out x14_2 p171 q171; cases e171; replace hx171_0 := (HB.out.cell (World.block_lt_of_cell? w _ hx171_0)).trans hx171_0; replace p171 := eq_true p171; replace q171 := eq_true q171) | (go_at_call 20; (with_reducible refine (topiarylaw12_short.calls (rdOf ByteArray.empty l1 x14_2) 10 t172 _ A21.out).mono ?_); rintro e w' ⟨rfl, ⟨nd, rfl⟩⟩; (try first | exact ⟨rfl, _, World.drewN_drewN _ _ _⟩ | exact ⟨rfl, _, Eq.trans (World.drewN_drewN _ _ _) (congrArg (World.drewN _) (Nat.add_assoc _ _ _))⟩)) | (go_at_call 21; (with_reducible refine (topiaryref11_Valid.calls kj12 t172 t173 _ A22.out).mono ?_); rintro e w27 ⟨rfl, hb⟩; have n0_ := Aside0.mk (Kd.R_below (by (with_reducible repeat (first | apply Kd.R_alloc | apply Kd.R_drewN | apply Kd.R_drew)); exact HO_12.out) hb); have n1_ := Aside0.mk (Kd.R_below (by (with_reducible repeat (first | apply Kd.R_alloc | apply Kd.R_drewN | apply Kd.R_drew)); exact HO_13.out) hb); have n2_ := Aside0.mk (Kd.R_below (by (with_reducible repeat (first | apply Kd.R_alloc | apply Kd.R_drewN | apply Kd.R_drew)); exact HO170.out) hb); have n3_ := Aside0.mk (blk_below (g := gb165) (o := .cells #[.int .i64 a2_0, .int .i64 a2_1] 34 (0, 0)) (by (with_reducible repeat (first | refine blk_drewN ?_ _ | refine blk_drew ?_ | refine blk_alloc ?_ _)); exact BK165.out) hb); have n4_ := Aside0.mk (below_step (by repeat (first | (with_reducible first | exact HB.out | apply below_alloc | apply pw_below_drewN | apply below_drew1 | refine below_set ?_ GE165.out) | exact HB.out)) hb); clear HO_12; clear HO_13; clear HO170; clear BK165; clear HB; have HO_12 := n0_; have HO_13 := n1_; have HO170 := n2_; have BK165 := n3_; have HB := n4_; clear n0_ n1_ n2_ n3_ n4_; (try clear hb); (try clear hb2); (try clear hk); (try clear hi))))
                          (try simp only [Act.put, List.setIfInBounds_toArray, List.set_cons_zero, List.set_cons_succ])
                          go_cut [16] (fun v16 wc => ∃ (kq : Nat) (x16_22 : ByteArray), v16 = .string x16_22 ∧ Aside0 (topiarylaw12_LexerWrites.j3 kq l0 l1 t166 x8_1 x11_2 x12_2 x13_2 x14_2 ((⟨#[110]⟩ : ByteArray) ++ (strOfNums y168)) x16_22 a2_0 a2_1 = some r) ∧ Aside0 (kq ≤ kj12) ∧ Aside0 (Kd.R Kd.string 9 wc w.heap.size (fun k_ => some k_ ≠ (u13 : Value).ownBlock) u12 x12_2) ∧ Aside0 (Kd.R Kd.string 9 wc w.heap.size (fun k_ => some k_ ≠ (u12 : Value).ownBlock) u13 x13_2) ∧ Aside0 (wc.heap[gb165]? = some (.cells #[.int .i64 a2_0, .int .i64 a2_1] 34 (0, 0))) ∧ Aside0 (Below w.heap.size w wc))
                          case first =>
                            have H := HC23.out
                            clear HC23
                            by_cases c28 : t173 = true
                            · subst c28
                              have H1 : (topiarylaw12_LexerWrites.j3 kj12 l0 l1 t166 x8_1 x11_2 x12_2 x13_2 x14_2 ((⟨#[110]⟩ : ByteArray) ++ (strOfNums y168)) t172 a2_0 a2_1) = some r := by rw [if_pos rfl] at H; exact H
                              clear H
                              have H := H1
                              clear H1
                              have H' := Aside0.mk H
                              clear H
                              go_wp2
                              repeat (go_quiet (fail); try go_wp2)
                              go_meet
                              case rel => exact ⟨_, (t172), (by first | rfl | (simp; done) | (simp [*]; done)), H', ⟨by have := HK1.out; have := HK2.out; have := HJ12.out; first | omega | exact Nat.le_refl _⟩, ⟨by (with_reducible repeat (first | apply Kd.R_alloc | apply Kd.R_drewN | apply Kd.R_drew)); exact HO_12.out⟩, ⟨by (with_reducible repeat (first | apply Kd.R_alloc | apply Kd.R_drewN | apply Kd.R_drew)); exact HO_13.out⟩, ⟨by (with_reducible repeat (first | refine blk_drewN ?_ _ | refine blk_drew ?_ | refine blk_alloc ?_ _)); exact BK165.out⟩, ⟨by repeat (first | (with_reducible first | exact HB.out | apply below_alloc | apply pw_below_drewN | apply below_drew1 | refine below_set ?_ GE165.out) | exact HB.out)⟩⟩
                            · replace c28 := Bool.eq_false_iff.mpr c28
                              subst c28
                              have H1 : (topiarylaw12_LexerWrites.j3 kj12 l0 l1 t166 x8_1 x11_2 x12_2 x13_2 x14_2 ((⟨#[110]⟩ : ByteArray) ++ (strOfNums y168)) (⟨#[118]⟩ : ByteArray) a2_0 a2_1) = some r := by rw [if_neg (show ¬ (false = true) by decide)] at H; exact H
                              clear H
                              have H := H1
                              clear H1
                              have H' := Aside0.mk H
                              clear H
                              go_wp2
                              repeat (go_quiet (fail); try go_wp2)
                              go_meet
                              case rel => exact ⟨_, ((⟨#[118]⟩ : ByteArray)), (by first | rfl | (simp; done) | (simp [*]; done)), H', ⟨by have := HK1.out; have := HK2.out; have := HJ12.out; first | omega | exact Nat.le_refl _⟩, ⟨by (with_reducible repeat (first | apply Kd.R_alloc | apply Kd.R_drewN | apply Kd.R_drew)); exact HO_12.out⟩, ⟨by (with_reducible repeat (first | apply Kd.R_alloc | apply Kd.R_drewN | apply Kd.R_drew)); exact HO_13.out⟩, ⟨by (with_reducible repeat (first | refine blk_drewN ?_ _ | refine blk_drew ?_ | refine blk_alloc ?_ _)); exact BK165.out⟩, ⟨by repeat (first | (with_reducible first | exact HB.out | apply below_alloc | apply pw_below_drewN | apply below_drew1 | refine below_set ?_ GE165.out) | exact HB.out)⟩⟩
                          case rest =>
                            clear HC23
                            try clear c1
                            try clear p1
                            try clear q1
                            try clear hx1
                            try clear c2
                            try clear p2
                            try clear hcv2
                            try clear c5
                            try clear p6
                            try clear c8
                            try clear c8b0
                            try clear c9
                            try clear c9b0
                            try clear c9b1
                            try clear c10
                            try clear c10b0
                            try clear c10b1
                            try clear c11
                            try clear c11b0
                            try clear c11b1
                            try clear c12
                            try clear c12b0
                            try clear c12b1
                            try clear c12b2
                            try clear c14
                            try clear c14b0
                            try clear c15
                            try clear c15b0
                            try clear c16
                            try clear p16
                            try clear q16
                            try clear hx16
                            try clear c17
                            try clear c17b0
                            try clear p17
                            try clear q17
                            try clear hx17
                            try clear c18
                            try clear c18b0
                            try clear c19
                            try clear c19b0
                            try clear c19b1
                            try clear c19b2
                            try clear c20
                            try clear c20b0
                            try clear hcv26
                            try clear c28
                            try clear hcz7_0
                            try clear hcz7_1
                            try clear hfz7_0
                            try clear hfz7_1
                            try clear hx167_0
                            try clear hx171_0
                            try clear p167
                            try clear p171
                            try clear p2
                            try clear p6
                            try clear q167
                            try clear q171
                            obtain ⟨kq, x16_22, rfl, HA, HJ22, HO_12, HO_13, BK165, HB⟩ := hcut
                            cases kq with
                            | zero => exact absurd HA.out (by simp [topiarylaw12_LexerWrites.j3])
                            | succ kj22 =>
                              have H := HA.out
                              clear HA
                              simp only [topiarylaw12_LexerWrites.j3] at H
                              by_cases c29 : (Int.tmod x14_2 2) = 1
                              · rw [if_pos c29] at H
                                have c29b0 : ((Int.tmod x14_2 2) == 1) = true := beq_iff_eq.mpr c29
                                have c29b1 : ((Int.tmod x14_2 2) != 1) = false := bne_eq_false_iff_eq.mpr c29
                                clear c29
                                replace H := Option.bind_eq_some_iff.mp H
                                obtain ⟨t174, A300, H⟩ := H
                                replace H : (if t174 = true then (if x11_2.size + 1 ≤ 9223372036854775807 then (if (x11_2 ++ (⟨#[32]⟩ : ByteArray)).size + x8_1.size ≤ 9223372036854775807 then (if ((x11_2 ++ (⟨#[32]⟩ : ByteArray)) ++ x8_1).size + ((⟨#[110]⟩ : ByteArray) ++ (strOfNums y168)).size ≤ 9223372036854775807 then (if (((x11_2 ++ (⟨#[32]⟩ : ByteArray)) ++ x8_1) ++ ((⟨#[110]⟩ : ByteArray) ++ (strOfNums y168))).size + x8_1.size ≤ 9223372036854775807 then (if ((((x11_2 ++ (⟨#[32]⟩ : ByteArray)) ++ x8_1) ++ ((⟨#[110]⟩ : ByteArray) ++ (strOfNums y168))) ++ x8_1).size + 1 ≤ 9223372036854775807 then (if (((((x11_2 ++ (⟨#[32]⟩ : ByteArray)) ++ x8_1) ++ ((⟨#[110]⟩ : ByteArray) ++ (strOfNums y168))) ++ x8_1) ++ (⟨#[61]⟩ : ByteArray)).size + x8_1.size ≤ 9223372036854775807 then (if ((((((x11_2 ++ (⟨#[32]⟩ : ByteArray)) ++ x8_1) ++ ((⟨#[110]⟩ : ByteArray) ++ (strOfNums y168))) ++ x8_1) ++ (⟨#[61]⟩ : ByteArray)) ++ x8_1).size + 1 ≤ 9223372036854775807 then ((topiaryref11_Escape.f kj22 (⟨#[119]⟩ : ByteArray)).bind fun t175 => (if (((((((x11_2 ++ (⟨#[32]⟩ : ByteArray)) ++ x8_1) ++ ((⟨#[110]⟩ : ByteArray) ++ (strOfNums y168))) ++ x8_1) ++ (⟨#[61]⟩ : ByteArray)) ++ x8_1) ++ (⟨#[39]⟩ : ByteArray)).size + t175.size ≤ 9223372036854775807 then (if ((((((((x11_2 ++ (⟨#[32]⟩ : ByteArray)) ++ x8_1) ++ ((⟨#[110]⟩ : ByteArray) ++ (strOfNums y168))) ++ x8_1) ++ (⟨#[61]⟩ : ByteArray)) ++ x8_1) ++ (⟨#[39]⟩ : ByteArray)) ++ t175).size + 1 ≤ 9223372036854775807 then (if x12_2.length < 8796093022208 then (if x13_2.length < 8796093022208 then (topiarylaw12_LexerWrites.l1 kj22 l0 l1 t166 x8_1 (((((((((x11_2 ++ (⟨#[32]⟩ : ByteArray)) ++ x8_1) ++ ((⟨#[110]⟩ : ByteArray) ++ (strOfNums y168))) ++ x8_1) ++ (⟨#[61]⟩ : ByteArray)) ++ x8_1) ++ (⟨#[39]⟩ : ByteArray)) ++ t175) ++ (⟨#[39]⟩ : ByteArray)) (x12_2 ++ [(⟨#[119]⟩ : ByteArray)]) (x13_2 ++ [((⟨#[110]⟩ : ByteArray) ++ (strOfNums y168))]) (wrap64 (x14_2 + 1)) a2_0 a2_1) else (none)) else (none)) else (none)) else (none))) else (none)) else (none)) else (none)) else (none)) else (none)) else (none)) else (none)) else (if x11_2.size + 1 ≤ 9223372036854775807 then (if (x11_2 ++ (⟨#[32]⟩ : ByteArray)).size + x8_1.size ≤ 9223372036854775807 then (if ((x11_2 ++ (⟨#[32]⟩ : ByteArray)) ++ x8_1).size + ((⟨#[110]⟩ : ByteArray) ++ (strOfNums y168)).size ≤ 9223372036854775807 then (if (((x11_2 ++ (⟨#[32]⟩ : ByteArray)) ++ x8_1) ++ ((⟨#[110]⟩ : ByteArray) ++ (strOfNums y168))).size + x8_1.size ≤ 9223372036854775807 then (if ((((x11_2 ++ (⟨#[32]⟩ : ByteArray)) ++ x8_1) ++ ((⟨#[110]⟩ : ByteArray) ++ (strOfNums y168))) ++ x8_1).size + 1 ≤ 9223372036854775807 then (if (((((x11_2 ++ (⟨#[32]⟩ : ByteArray)) ++ x8_1) ++ ((⟨#[110]⟩ : ByteArray) ++ (strOfNums y168))) ++ x8_1) ++ (⟨#[61]⟩ : ByteArray)).size + x8_1.size ≤ 9223372036854775807 then (if ((((((x11_2 ++ (⟨#[32]⟩ : ByteArray)) ++ x8_1) ++ ((⟨#[110]⟩ : ByteArray) ++ (strOfNums y168))) ++ x8_1) ++ (⟨#[61]⟩ : ByteArray)) ++ x8_1).size + 1 ≤ 9223372036854775807 then ((topiaryref11_Escape.f kj22 x16_22).bind fun t182 => (if (((((((x11_2 ++ (⟨#[32]⟩ : ByteArray)) ++ x8_1) ++ ((⟨#[110]⟩ : ByteArray) ++ (strOfNums y168))) ++ x8_1) ++ (⟨#[61]⟩ : ByteArray)) ++ x8_1) ++ (⟨#[39]⟩ : ByteArray)).size + t182.size ≤ 9223372036854775807 then (if ((((((((x11_2 ++ (⟨#[32]⟩ : ByteArray)) ++ x8_1) ++ ((⟨#[110]⟩ : ByteArray) ++ (strOfNums y168))) ++ x8_1) ++ (⟨#[61]⟩ : ByteArray)) ++ x8_1) ++ (⟨#[39]⟩ : ByteArray)) ++ t182).size + 1 ≤ 9223372036854775807 then (if x12_2.length < 8796093022208 then (if x13_2.length < 8796093022208 then (topiarylaw12_LexerWrites.l1 kj22 l0 l1 t166 x8_1 (((((((((x11_2 ++ (⟨#[32]⟩ : ByteArray)) ++ x8_1) ++ ((⟨#[110]⟩ : ByteArray) ++ (strOfNums y168))) ++ x8_1) ++ (⟨#[61]⟩ : ByteArray)) ++ x8_1) ++ (⟨#[39]⟩ : ByteArray)) ++ t182) ++ (⟨#[39]⟩ : ByteArray)) (x12_2 ++ [x16_22]) (x13_2 ++ [((⟨#[110]⟩ : ByteArray) ++ (strOfNums y168))]) (wrap64 (x14_2 + 1)) a2_0 a2_1) else (none)) else (none)) else (none)) else (none))) else (none)) else (none)) else (none)) else (none)) else (none)) else (none)) else (none))) = some r := H
                                have A30 := Aside0.mk A300
                                clear A300
                                by_cases c31 : t174 = true
                                · subst c31
                                  have H1 : (if x11_2.size + 1 ≤ 9223372036854775807 then (if (x11_2 ++ (⟨#[32]⟩ : ByteArray)).size + x8_1.size ≤ 9223372036854775807 then (if ((x11_2 ++ (⟨#[32]⟩ : ByteArray)) ++ x8_1).size + ((⟨#[110]⟩ : ByteArray) ++ (strOfNums y168)).size ≤ 9223372036854775807 then (if (((x11_2 ++ (⟨#[32]⟩ : ByteArray)) ++ x8_1) ++ ((⟨#[110]⟩ : ByteArray) ++ (strOfNums y168))).size + x8_1.size ≤ 9223372036854775807 then (if ((((x11_2 ++ (⟨#[32]⟩ : ByteArray)) ++ x8_1) ++ ((⟨#[110]⟩ : ByteArray) ++ (strOfNums y168))) ++ x8_1).size + 1 ≤ 9223372036854775807 then (if (((((x11_2 ++ (⟨#[32]⟩ : ByteArray)) ++ x8_1) ++ ((⟨#[110]⟩ : ByteArray) ++ (strOfNums y168))) ++ x8_1) ++ (⟨#[61]⟩ : ByteArray)).size + x8_1.size ≤ 9223372036854775807 then (if ((((((x11_2 ++ (⟨#[32]⟩ : ByteArray)) ++ x8_1) ++ ((⟨#[110]⟩ : ByteArray) ++ (strOfNums y168))) ++ x8_1) ++ (⟨#[61]⟩ : ByteArray)) ++ x8_1).size + 1 ≤ 9223372036854775807 then ((topiaryref11_Escape.f kj22 (⟨#[119]⟩ : ByteArray)).bind fun t175 => (if (((((((x11_2 ++ (⟨#[32]⟩ : ByteArray)) ++ x8_1) ++ ((⟨#[110]⟩ : ByteArray) ++ (strOfNums y168))) ++ x8_1) ++ (⟨#[61]⟩ : ByteArray)) ++ x8_1) ++ (⟨#[39]⟩ : ByteArray)).size + t175.size ≤ 9223372036854775807 then (if ((((((((x11_2 ++ (⟨#[32]⟩ : ByteArray)) ++ x8_1) ++ ((⟨#[110]⟩ : ByteArray) ++ (strOfNums y168))) ++ x8_1) ++ (⟨#[61]⟩ : ByteArray)) ++ x8_1) ++ (⟨#[39]⟩ : ByteArray)) ++ t175).size + 1 ≤ 9223372036854775807 then (if x12_2.length < 8796093022208 then (if x13_2.length < 8796093022208 then (topiarylaw12_LexerWrites.l1 kj22 l0 l1 t166 x8_1 (((((((((x11_2 ++ (⟨#[32]⟩ : ByteArray)) ++ x8_1) ++ ((⟨#[110]⟩ : ByteArray) ++ (strOfNums y168))) ++ x8_1) ++ (⟨#[61]⟩ : ByteArray)) ++ x8_1) ++ (⟨#[39]⟩ : ByteArray)) ++ t175) ++ (⟨#[39]⟩ : ByteArray)) (x12_2 ++ [(⟨#[119]⟩ : ByteArray)]) (x13_2 ++ [((⟨#[110]⟩ : ByteArray) ++ (strOfNums y168))]) (wrap64 (x14_2 + 1)) a2_0 a2_1) else (none)) else (none)) else (none)) else (none))) else (none)) else (none)) else (none)) else (none)) else (none)) else (none)) else (none)) = some r := by rw [if_pos rfl] at H; exact H
                                  clear H
                                  have H := H1
                                  clear H1
                                  by_cases c32 : x11_2.size + 1 ≤ 9223372036854775807
                                  · rw [if_pos c32] at H
                                    have c32b0 := eq_true c32
                                    have c32b1 : decide (x11_2.size + 1 ≤ 9223372036854775807) = true := decide_eq_true c32
                                    try have c32b2 : (9223372036854775807 < x11_2.size + 1) = False := eq_false (Nat.not_lt.2 c32)
                                    by_cases c33 : (x11_2 ++ (⟨#[32]⟩ : ByteArray)).size + x8_1.size ≤ 9223372036854775807
                                    · rw [if_pos c33] at H
                                      have c33b0 := eq_true c33
                                      have c33b1 : decide ((x11_2 ++ (⟨#[32]⟩ : ByteArray)).size + x8_1.size ≤ 9223372036854775807) = true := decide_eq_true c33
                                      try have c33b2 : (9223372036854775807 < (x11_2 ++ (⟨#[32]⟩ : ByteArray)).size + x8_1.size) = False := eq_false (Nat.not_lt.2 c33)
                                      by_cases c34 : ((x11_2 ++ (⟨#[32]⟩ : ByteArray)) ++ x8_1).size + ((⟨#[110]⟩ : ByteArray) ++ (strOfNums y168)).size ≤ 9223372036854775807
                                      · rw [if_pos c34] at H
                                        have c34b0 := eq_true c34
                                        have c34b1 : decide (((x11_2 ++ (⟨#[32]⟩ : ByteArray)) ++ x8_1).size + ((⟨#[110]⟩ : ByteArray) ++ (strOfNums y168)).size ≤ 9223372036854775807) = true := decide_eq_true c34
                                        try have c34b2 : (9223372036854775807 < ((x11_2 ++ (⟨#[32]⟩ : ByteArray)) ++ x8_1).size + ((⟨#[110]⟩ : ByteArray) ++ (strOfNums y168)).size) = False := eq_false (Nat.not_lt.2 c34)
                                        by_cases c35 : (((x11_2 ++ (⟨#[32]⟩ : ByteArray)) ++ x8_1) ++ ((⟨#[110]⟩ : ByteArray) ++ (strOfNums y168))).size + x8_1.size ≤ 9223372036854775807
                                        · rw [if_pos c35] at H
                                          have c35b0 := eq_true c35
                                          have c35b1 : decide ((((x11_2 ++ (⟨#[32]⟩ : ByteArray)) ++ x8_1) ++ ((⟨#[110]⟩ : ByteArray) ++ (strOfNums y168))).size + x8_1.size ≤ 9223372036854775807) = true := decide_eq_true c35
                                          try have c35b2 : (9223372036854775807 < (((x11_2 ++ (⟨#[32]⟩ : ByteArray)) ++ x8_1) ++ ((⟨#[110]⟩ : ByteArray) ++ (strOfNums y168))).size + x8_1.size) = False := eq_false (Nat.not_lt.2 c35)
                                          by_cases c36 : ((((x11_2 ++ (⟨#[32]⟩ : ByteArray)) ++ x8_1) ++ ((⟨#[110]⟩ : ByteArray) ++ (strOfNums y168))) ++ x8_1).size + 1 ≤ 9223372036854775807
                                          · rw [if_pos c36] at H
                                            have c36b0 := eq_true c36
                                            have c36b1 : decide (((((x11_2 ++ (⟨#[32]⟩ : ByteArray)) ++ x8_1) ++ ((⟨#[110]⟩ : ByteArray) ++ (strOfNums y168))) ++ x8_1).size + 1 ≤ 9223372036854775807) = true := decide_eq_true c36
                                            try have c36b2 : (9223372036854775807 < ((((x11_2 ++ (⟨#[32]⟩ : ByteArray)) ++ x8_1) ++ ((⟨#[110]⟩ : ByteArray) ++ (strOfNums y168))) ++ x8_1).size + 1) = False := eq_false (Nat.not_lt.2 c36)
                                            have c36z : x11_2.size + 1 + x8_1.size + (1 + (strOfNums y168).size) + x8_1.size + 1 ≤ 9223372036854775807 := by have z_ := c36; simp only [ByteArray.size_append] at z_; exact z_
                                            have c36zb2 : (9223372036854775807 < x11_2.size + 1 + x8_1.size + (1 + (strOfNums y168).size) + x8_1.size + 1) = False := eq_false (Nat.not_lt.2 c36z)
                                            by_cases c37 : (((((x11_2 ++ (⟨#[32]⟩ : ByteArray)) ++ x8_1) ++ ((⟨#[110]⟩ : ByteArray) ++ (strOfNums y168))) ++ x8_1) ++ (⟨#[61]⟩ : ByteArray)).size + x8_1.size ≤ 9223372036854775807
                                            · rw [if_pos c37] at H
                                              have c37b0 := eq_true c37
                                              have c37b1 : decide ((((((x11_2 ++ (⟨#[32]⟩ : ByteArray)) ++ x8_1) ++ ((⟨#[110]⟩ : ByteArray) ++ (strOfNums y168))) ++ x8_1) ++ (⟨#[61]⟩ : ByteArray)).size + x8_1.size ≤ 9223372036854775807) = true := decide_eq_true c37
                                              try have c37b2 : (9223372036854775807 < (((((x11_2 ++ (⟨#[32]⟩ : ByteArray)) ++ x8_1) ++ ((⟨#[110]⟩ : ByteArray) ++ (strOfNums y168))) ++ x8_1) ++ (⟨#[61]⟩ : ByteArray)).size + x8_1.size) = False := eq_false (Nat.not_lt.2 c37)
                                              by_cases c38 : ((((((x11_2 ++ (⟨#[32]⟩ : ByteArray)) ++ x8_1) ++ ((⟨#[110]⟩ : ByteArray) ++ (strOfNums y168))) ++ x8_1) ++ (⟨#[61]⟩ : ByteArray)) ++ x8_1).size + 1 ≤ 9223372036854775807
                                              · rw [if_pos c38] at H
                                                have c38b0 := eq_true c38
                                                have c38b1 : decide (((((((x11_2 ++ (⟨#[32]⟩ : ByteArray)) ++ x8_1) ++ ((⟨#[110]⟩ : ByteArray) ++ (strOfNums y168))) ++ x8_1) ++ (⟨#[61]⟩ : ByteArray)) ++ x8_1).size + 1 ≤ 9223372036854775807) = true := decide_eq_true c38
                                                try have c38b2 : (9223372036854775807 < ((((((x11_2 ++ (⟨#[32]⟩ : ByteArray)) ++ x8_1) ++ ((⟨#[110]⟩ : ByteArray) ++ (strOfNums y168))) ++ x8_1) ++ (⟨#[61]⟩ : ByteArray)) ++ x8_1).size + 1) = False := eq_false (Nat.not_lt.2 c38)
                                                have c38z : x11_2.size + 1 + x8_1.size + (1 + (strOfNums y168).size) + x8_1.size + 1 + x8_1.size + 1 ≤ 9223372036854775807 := by have z_ := c38; simp only [ByteArray.size_append] at z_; exact z_
                                                have c38zb2 : (9223372036854775807 < x11_2.size + 1 + x8_1.size + (1 + (strOfNums y168).size) + x8_1.size + 1 + x8_1.size + 1) = False := eq_false (Nat.not_lt.2 c38z)
                                                replace H := Option.bind_eq_some_iff.mp H
                                                obtain ⟨t175, A390, H⟩ := H
                                                replace H : (if (((((((x11_2 ++ (⟨#[32]⟩ : ByteArray)) ++ x8_1) ++ ((⟨#[110]⟩ : ByteArray) ++ (strOfNums y168))) ++ x8_1) ++ (⟨#[61]⟩ : ByteArray)) ++ x8_1) ++ (⟨#[39]⟩ : ByteArray)).size + t175.size ≤ 9223372036854775807 then (if ((((((((x11_2 ++ (⟨#[32]⟩ : ByteArray)) ++ x8_1) ++ ((⟨#[110]⟩ : ByteArray) ++ (strOfNums y168))) ++ x8_1) ++ (⟨#[61]⟩ : ByteArray)) ++ x8_1) ++ (⟨#[39]⟩ : ByteArray)) ++ t175).size + 1 ≤ 9223372036854775807 then (if x12_2.length < 8796093022208 then (if x13_2.length < 8796093022208 then (topiarylaw12_LexerWrites.l1 kj22 l0 l1 t166 x8_1 (((((((((x11_2 ++ (⟨#[32]⟩ : ByteArray)) ++ x8_1) ++ ((⟨#[110]⟩ : ByteArray) ++ (strOfNums y168))) ++ x8_1) ++ (⟨#[61]⟩ : ByteArray)) ++ x8_1) ++ (⟨#[39]⟩ : ByteArray)) ++ t175) ++ (⟨#[39]⟩ : ByteArray)) (x12_2 ++ [(⟨#[119]⟩ : ByteArray)]) (x13_2 ++ [((⟨#[110]⟩ : ByteArray) ++ (strOfNums y168))]) (wrap64 (x14_2 + 1)) a2_0 a2_1) else (none)) else (none)) else (none)) else (none)) = some r := H
                                                have A39 := Aside0.mk A390
                                                clear A390
                                                by_cases c40 : (((((((x11_2 ++ (⟨#[32]⟩ : ByteArray)) ++ x8_1) ++ ((⟨#[110]⟩ : ByteArray) ++ (strOfNums y168))) ++ x8_1) ++ (⟨#[61]⟩ : ByteArray)) ++ x8_1) ++ (⟨#[39]⟩ : ByteArray)).size + t175.size ≤ 9223372036854775807
                                                · rw [if_pos c40] at H
                                                  have c40b0 := eq_true c40
                                                  have c40b1 : decide ((((((((x11_2 ++ (⟨#[32]⟩ : ByteArray)) ++ x8_1) ++ ((⟨#[110]⟩ : ByteArray) ++ (strOfNums y168))) ++ x8_1) ++ (⟨#[61]⟩ : ByteArray)) ++ x8_1) ++ (⟨#[39]⟩ : ByteArray)).size + t175.size ≤ 9223372036854775807) = true := decide_eq_true c40
                                                  try have c40b2 : (9223372036854775807 < (((((((x11_2 ++ (⟨#[32]⟩ : ByteArray)) ++ x8_1) ++ ((⟨#[110]⟩ : ByteArray) ++ (strOfNums y168))) ++ x8_1) ++ (⟨#[61]⟩ : ByteArray)) ++ x8_1) ++ (⟨#[39]⟩ : ByteArray)).size + t175.size) = False := eq_false (Nat.not_lt.2 c40)
                                                  by_cases c41 : ((((((((x11_2 ++ (⟨#[32]⟩ : ByteArray)) ++ x8_1) ++ ((⟨#[110]⟩ : ByteArray) ++ (strOfNums y168))) ++ x8_1) ++ (⟨#[61]⟩ : ByteArray)) ++ x8_1) ++ (⟨#[39]⟩ : ByteArray)) ++ t175).size + 1 ≤ 9223372036854775807
                                                  · rw [if_pos c41] at H
                                                    have c41b0 := eq_true c41
                                                    have c41b1 : decide (((((((((x11_2 ++ (⟨#[32]⟩ : ByteArray)) ++ x8_1) ++ ((⟨#[110]⟩ : ByteArray) ++ (strOfNums y168))) ++ x8_1) ++ (⟨#[61]⟩ : ByteArray)) ++ x8_1) ++ (⟨#[39]⟩ : ByteArray)) ++ t175).size + 1 ≤ 9223372036854775807) = true := decide_eq_true c41
                                                    try have c41b2 : (9223372036854775807 < ((((((((x11_2 ++ (⟨#[32]⟩ : ByteArray)) ++ x8_1) ++ ((⟨#[110]⟩ : ByteArray) ++ (strOfNums y168))) ++ x8_1) ++ (⟨#[61]⟩ : ByteArray)) ++ x8_1) ++ (⟨#[39]⟩ : ByteArray)) ++ t175).size + 1) = False := eq_false (Nat.not_lt.2 c41)
                                                    have c41z : x11_2.size + 1 + x8_1.size + (1 + (strOfNums y168).size) + x8_1.size + 1 + x8_1.size + 1 + t175.size + 1 ≤ 9223372036854775807 := by have z_ := c41; simp only [ByteArray.size_append] at z_; exact z_
                                                    have c41zb2 : (9223372036854775807 < x11_2.size + 1 + x8_1.size + (1 + (strOfNums y168).size) + x8_1.size + 1 + x8_1.size + 1 + t175.size + 1) = False := eq_false (Nat.not_lt.2 c41z)
                                                    by_cases c42 : x12_2.length < 8796093022208
                                                    · rw [if_pos c42] at H
                                                      have LMc42 := Aside0.mk c42
                                                      clear c42
                                                      obtain ⟨y176, hy176⟩ : ∃ y_ : List ByteArray, y_ = (x12_2 ++ [(⟨#[119]⟩ : ByteArray)]) := ⟨_, rfl⟩
                                                      replace H : (if x13_2.length < 8796093022208 then (topiarylaw12_LexerWrites.l1 kj22 l0 l1 t166 x8_1 (((((((((x11_2 ++ (⟨#[32]⟩ : ByteArray)) ++ x8_1) ++ ((⟨#[110]⟩ : ByteArray) ++ (strOfNums y168))) ++ x8_1) ++ (⟨#[61]⟩ : ByteArray)) ++ x8_1) ++ (⟨#[39]⟩ : ByteArray)) ++ t175) ++ (⟨#[39]⟩ : ByteArray)) y176 (x13_2 ++ [((⟨#[110]⟩ : ByteArray) ++ (strOfNums y168))]) (wrap64 (x14_2 + 1)) a2_0 a2_1) else (none)) = some r := by first | (rw [hy176]; with_reducible exact H) | (have H2_ := (Option.bind_some _ _).symm.trans H; rw [hy176]; with_reducible exact H2_) | (have H2_ := (Option.bind_some _ _).symm.trans H; with_reducible exact H2_) | with_reducible exact H | (rw [hy176]; exact H) | exact H
                                                      have Ny176 := Aside0.mk hy176
                                                      clear hy176
                                                      by_cases c43 : x13_2.length < 8796093022208
                                                      · rw [if_pos c43] at H
                                                        have LMc43 := Aside0.mk c43
                                                        clear c43
                                                        obtain ⟨y179, hy179⟩ : ∃ y_ : List ByteArray, y_ = (x13_2 ++ [((⟨#[110]⟩ : ByteArray) ++ (strOfNums y168))]) := ⟨_, rfl⟩
                                                        replace H : (topiarylaw12_LexerWrites.l1 kj22 l0 l1 t166 x8_1 (((((((((x11_2 ++ (⟨#[32]⟩ : ByteArray)) ++ x8_1) ++ ((⟨#[110]⟩ : ByteArray) ++ (strOfNums y168))) ++ x8_1) ++ (⟨#[61]⟩ : ByteArray)) ++ x8_1) ++ (⟨#[39]⟩ : ByteArray)) ++ t175) ++ (⟨#[39]⟩ : ByteArray)) y176 y179 (wrap64 (x14_2 + 1)) a2_0 a2_1) = some r := by first | (rw [hy179]; with_reducible exact H) | (have H2_ := (Option.bind_some _ _).symm.trans H; rw [hy179]; with_reducible exact H2_) | (have H2_ := (Option.bind_some _ _).symm.trans H; with_reducible exact H2_) | with_reducible exact H | (rw [hy179]; exact H) | exact H
                                                        have Ny179 := Aside0.mk hy179
                                                        clear hy179
                                                        have H' := Aside0.mk H
                                                        clear H
                                                        go_wp2_with (first | (go_at_call 22; (with_reducible refine (topiarylaw12_has.calls kj22 x16_22 39 true _ A30.out).mono ?_); rintro e w' ⟨rfl, ⟨nd, rfl⟩⟩; (try first | exact ⟨rfl, _, World.drewN_drewN _ _ _⟩ | exact ⟨rfl, _, Eq.trans (World.drewN_drewN _ _ _) (congrArg (World.drewN _) (Nat.add_assoc _ _ _))⟩)) | (go_at_call 11; (with_reducible refine (topiaryref11_Escape.calls kj22 (⟨#[119]⟩ : ByteArray) t175 _ A39.out).mono ?_); rintro e w' ⟨rfl, ⟨nd, rfl⟩⟩; (try first | exact ⟨rfl, _, World.drewN_drewN _ _ _⟩ | exact ⟨rfl, _, Eq.trans (World.drewN_drewN _ _ _) (congrArg (World.drewN _) (Nat.add_assoc _ _ _))⟩)) | ((with_reducible refine gate_builtin (b := .append) (xs := #[.tmp 93, .tmp 95]) rfl ?_); (try (refine gate_guard (by rfl) ?_; dsimp only)); at_builtin; refine Kd.R_append Kd.string (w0 := w) w.heap.size rfl (.tmp 93) (.tmp 95) 33 9 (.string ⟨#[]⟩) 16 rfl Try.underlying33 info9 rfl (by decide) (by omega) u12 x12_2 (⟨#[119]⟩ : ByteArray) [.string (⟨#[119]⟩ : ByteArray)] (fun k_ => some k_ ≠ (u13 : Value).ownBlock) (fun _ => False) rfl rfl ?aP (fun _ hk => hk.elim) ?aF ?aO ?aB ?aS ?aL ?_; (case aP => exact rfl); (case aB => exact (by repeat (first | (with_reducible first | exact HB.out | apply below_alloc | apply pw_below_drewN | apply below_drew1 | refine below_set ?_ GE165.out) | exact HB.out))); (case aF => exact (fun k_ hk => Kd.fresh' (Kd.R_lt (by (with_reducible repeat (first | apply Kd.R_alloc | apply Kd.R_drewN | apply Kd.R_drew)); exact HO_13.out)) k_ hk)); (case aO => exact (by (with_reducible repeat (first | apply Kd.R_alloc | apply Kd.R_drewN | apply Kd.R_drew)); exact HO_12.out)); (case aS => exact (below_size (by repeat (first | (with_reducible first | exact HB.out | apply below_alloc | apply pw_below_drewN | apply below_drew1 | refine below_set ?_ GE165.out) | exact HB.out)))); (case aL => have := LMc42.out; omega); intro v177 w44 ho hb hg hat; rw [← Ny176.out] at ho; have n0_ := Aside0.mk (Kd.R_after (ok := (fun _ => True)) (by (with_reducible repeat (first | apply Kd.R_alloc | apply Kd.R_drewN | apply Kd.R_drew)); exact Kd.R_mono HO_13.out (fun _ hk => ⟨trivial, hk⟩)) hg hat); have n1_ := Aside0.mk (blk_grown (g := gb165) (o := .cells #[.int .i64 a2_0, .int .i64 a2_1] 34 (0, 0)) (by (with_reducible repeat (first | refine blk_drewN ?_ _ | refine blk_drew ?_ | refine blk_alloc ?_ _)); exact BK165.out) hg (Kd.R_ne HO_12.out BK165.out (by decide))); have n2_ := Aside0.mk (hb); have n3_ := Aside0.mk (ho); clear HO_13; clear BK165; clear HB; clear HO_12; have HO_13 := n0_; have BK165 := n1_; have HB := n2_; have HO178 := n3_; clear n0_ n1_ n2_ n3_; clear ho hb hg hat) | ((with_reducible refine gate_builtin (b := .append) (xs := #[.tmp 97, .tmp 99]) rfl ?_); (try (refine gate_guard (by rfl) ?_; dsimp only)); at_builtin; refine Kd.R_append Kd.string (w0 := w) w.heap.size rfl (.tmp 97) (.tmp 99) 33 9 (.string ⟨#[]⟩) 16 rfl Try.underlying33 info9 rfl (by decide) (by omega) u13 x13_2 ((⟨#[110]⟩ : ByteArray) ++ (strOfNums y168)) [.string ((⟨#[110]⟩ : ByteArray) ++ (strOfNums y168))] (fun k_ => some k_ ≠ (v177 : Value).ownBlock) (fun _ => False) rfl rfl ?aP (fun _ hk => hk.elim) ?aF ?aO ?aB ?aS ?aL ?_; (case aP => exact rfl); (case aB => exact (by repeat (first | (with_reducible first | exact HB.out | apply below_alloc | apply pw_below_drewN | apply below_drew1 | refine below_set ?_ GE165.out) | exact HB.out))); (case aF => exact (fun k_ hk => Kd.fresh' (Kd.R_lt (by (with_reducible repeat (first | apply Kd.R_alloc | apply Kd.R_drewN | apply Kd.R_drew)); exact HO178.out)) k_ hk)); (case aO => exact (by (with_reducible repeat (first | apply Kd.R_alloc | apply Kd.R_drewN | apply Kd.R_drew)); exact Kd.R_mono HO_13.out (fun _ hk => hk.2))); (case aS => exact (below_size (by repeat (first | (with_reducible first | exact HB.out | apply below_alloc | apply pw_below_drewN | apply below_drew1 | refine below_set ?_ GE165.out) | exact HB.out)))); (case aL => have := LMc43.out; omega); intro v180 w45 ho hb hg hat; rw [← Ny179.out] at ho; have n0_ := Aside0.mk (blk_grown (g := gb165) (o := .cells #[.int .i64 a2_0, .int .i64 a2_1] 34 (0, 0)) (by (with_reducible repeat (first | refine blk_drewN ?_ _ | refine blk_drew ?_ | refine blk_alloc ?_ _)); exact BK165.out) hg (Kd.R_ne HO_13.out BK165.out (by decide))); have n1_ := Aside0.mk (Kd.R_after (ok := (fun _ => True)) (by (with_reducible repeat (first | apply Kd.R_alloc | apply Kd.R_drewN | apply Kd.R_drew)); exact Kd.R_mono HO178.out (fun _ hk => ⟨trivial, hk⟩)) hg hat); have n2_ := Aside0.mk (hb); have n3_ := Aside0.mk (ho); clear BK165; clear HO178; clear HB; clear HO_13; have BK165 := n0_; have HO178 := n1_; have HB := n2_; have HO181 := n3_; clear n0_ n1_ n2_ n3_; clear ho hb hg hat))
                                                        repeat (go_quiet (first | (go_at_call 22; (with_reducible refine (topiarylaw12_has.calls kj22 x16_22 39 true _ A30.out).mono ?_); rintro e w' ⟨rfl, ⟨nd, rfl⟩⟩; (try first | exact ⟨rfl, _, World.drewN_drewN _ _ _⟩ | exact ⟨rfl, _, Eq.trans (World.drewN_drewN _ _ _) (congrArg (World.drewN _) (Nat.add_assoc _ _ _))⟩)) | (go_at_call 11; (with_reducible refine (topiaryref11_Escape.calls kj22 (⟨#[119]⟩ : ByteArray) t175 _ A39.out).mono ?_); rintro e w' ⟨rfl, ⟨nd, rfl⟩⟩; (try first | exact ⟨rfl, _, World.drewN_drewN _ _ _⟩ | exact ⟨rfl, _, Eq.trans (World.drewN_drewN _ _ _) (congrArg (World.drewN _) (Nat.add_assoc _ _ _))⟩)) | ((with_reducible refine gate_builtin (b := .append) (xs := #[.tmp 93, .tmp 95]) rfl ?_); (try (refine gate_guard (by rfl) ?_; dsimp only)); at_builtin; refine Kd.R_append Kd.string (w0 := w) w.heap.size rfl (.tmp 93) (.tmp 95) 33 9 (.string ⟨#[]⟩) 16 rfl Try.underlying33 info9 rfl (by decide) (by omega) u12 x12_2 (⟨#[119]⟩ : ByteArray) [.string (⟨#[119]⟩ : ByteArray)] (fun k_ => some k_ ≠ (u13 : Value).ownBlock) (fun _ => False) rfl rfl ?aP (fun _ hk => hk.elim) ?aF ?aO ?aB ?aS ?aL ?_; (case aP => exact rfl); (case aB => exact (by repeat (first | (with_reducible first | exact HB.out | apply below_alloc | apply pw_below_drewN | apply below_drew1 | refine below_set ?_ GE165.out) | exact HB.out))); (case aF => exact (fun k_ hk => Kd.fresh' (Kd.R_lt (by (with_reducible repeat (first | apply Kd.R_alloc | apply Kd.R_drewN | apply Kd.R_drew)); exact HO_13.out)) k_ hk)); (case aO => exact (by (with_reducible repeat (first | apply Kd.R_alloc | apply Kd.R_drewN | apply Kd.R_drew)); exact HO_12.out)); (case aS => exact (below_size (by repeat (first | (with_reducible first | exact HB.out | apply below_alloc | apply pw_below_drewN | apply below_drew1 | refine below_set ?_ GE165.out) | exact HB.out)))); (case aL => have := LMc42.out; omega); intro v177 w44 ho hb hg hat; rw [← Ny176.out] at ho; have n0_ := Aside0.mk (Kd.R_after (ok := (fun _ => True)) (by (with_reducible repeat (first | apply Kd.R_alloc | apply Kd.R_drewN | apply Kd.R_drew)); exact Kd.R_mono HO_13.out (fun _ hk => ⟨trivial, hk⟩)) hg hat); have n1_ := Aside0.mk (blk_grown (g := gb165) (o := .cells #[.int .i64 a2_0, .int .i64 a2_1] 34 (0, 0)) (by (with_reducible repeat (first | refine blk_drewN ?_ _ | refine blk_drew ?_ | refine blk_alloc ?_ _)); exact BK165.out) hg (Kd.R_ne HO_12.out BK165.out (by decide))); have n2_ := Aside0.mk (hb); have n3_ := Aside0.mk (ho); clear HO_13; clear BK165; clear HB; clear HO_12; have HO_13 := n0_; have BK165 := n1_; have HB := n2_; have HO178 := n3_; clear n0_ n1_ n2_ n3_; clear ho hb hg hat) | ((with_reducible refine gate_builtin (b := .append) (xs := #[.tmp 97, .tmp 99]) rfl ?_); (try (refine gate_guard (by rfl) ?_; dsimp only)); at_builtin; refine Kd.R_append Kd.string (w0 := w) w.heap.size rfl (.tmp 97) (.tmp 99) 33 9 (.string ⟨#[]⟩) 16 rfl Try.underlying33 info9 rfl (by decide) (by omega) u13 x13_2 ((⟨#[110]⟩ : ByteArray) ++ (strOfNums y168)) [.string ((⟨#[110]⟩ : ByteArray) ++ (strOfNums y168))] (fun k_ => some k_ ≠ (v177 : Value).ownBlock) (fun _ => False) rfl rfl ?aP (fun _ hk => hk.elim) ?aF ?aO ?aB ?aS ?aL ?_; (case aP => exact rfl); (case aB => exact (by repeat (first | (with_reducible first | exact HB.out | apply below_alloc | apply pw_below_drewN | apply below_drew1 | refine below_set ?_ GE165.out) | exact HB.out))); (case aF => exact (fun k_ hk => Kd.fresh' (Kd.R_lt (by (with_reducible repeat (first | apply Kd.R_alloc | apply Kd.R_drewN | apply Kd.R_drew)); exact HO178.out)) k_ hk)); (case aO => exact (by (with_reducible repeat (first | apply Kd.R_alloc | apply Kd.R_drewN | apply Kd.R_drew)); exact Kd.R_mono HO_13.out (fun _ hk => hk.2))); (case aS => exact (below_size (by repeat (first | (with_reducible first | exact HB.out | apply below_alloc | apply pw_below_drewN | apply below_drew1 | refine below_set ?_ GE165.out) | exact HB.out)))); (case aL => have := LMc43.out; omega); intro v180 w45 ho hb hg hat; rw [← Ny179.out] at ho; have n0_ := Aside0.mk (blk_grown (g := gb165) (o := .cells #[.int .i64 a2_0, .int .i64 a2_1] 34 (0, 0)) (by (with_reducible repeat (first | refine blk_drewN ?_ _ | refine blk_drew ?_ | refine blk_alloc ?_ _)); exact BK165.out) hg (Kd.R_ne HO_13.out BK165.out (by decide))); have n1_ := Aside0.mk (Kd.R_after (ok := (fun _ => True)) (by (with_reducible repeat (first | apply Kd.R_alloc | apply Kd.R_drewN | apply Kd.R_drew)); exact Kd.R_mono HO178.out (fun _ hk => ⟨trivial, hk⟩)) hg hat); have n2_ := Aside0.mk (hb); have n3_ := Aside0.mk (ho); clear BK165; clear HO178; clear HB; clear HO_13; have BK165 := n0_; have HO178 := n1_; have HB := n2_; have HO181 := n3_; clear n0_ n1_ n2_ n3_; clear ho hb hg hat)); try go_wp2_with (first | (go_at_call 22; (with_reducible refine (topiarylaw12_has.calls kj22 x16_22 39 true _ A30.out).mono ?_); rintro e w' ⟨rfl, ⟨nd, rfl⟩⟩; (try first | exact ⟨rfl, _, World.drewN_drewN _ _ _⟩ | exact ⟨rfl, _, Eq.trans (World.drewN_drewN _ _ _) (congrArg (World.drewN _) (Nat.add_assoc _ _ _))⟩)) | (go_at_call 11; (with_reducible refine (topiaryref11_Escape.calls kj22 (⟨#[119]⟩ : ByteArray) t175 _ A39.out).mono ?_); rintro e w' ⟨rfl, ⟨nd, rfl⟩⟩; (try first | exact ⟨rfl, _, World.drewN_drewN _ _ _⟩ | exact ⟨rfl, _, Eq.trans (World.drewN_drewN _ _ _) (congrArg (World.drewN _) (Nat.add_assoc _ _ _))⟩)) | ((with_reducible refine gate_builtin (b := .append) (xs := #[.tmp 93, .tmp 95]) rfl ?_); (try (refine gate_guard (by rfl) ?_; dsimp only)); at_builtin; refine Kd.R_append Kd.string (w0 := w) w.heap.size rfl (.tmp 93) (.tmp 95) 33 9 (.string ⟨#[]⟩) 16 rfl Try.underlying33 info9 rfl (by decide) (by omega) u12 x12_2 (⟨#[119]⟩ : ByteArray) [.string (⟨#[119]⟩ : ByteArray)] (fun k_ => some k_ ≠ (u13 : Value).ownBlock) (fun _ => False) rfl rfl ?aP (fun _ hk => hk.elim) ?aF ?aO ?aB ?aS ?aL ?_; (case aP => exact rfl); (case aB => exact (by repeat (first | (with_reducible first | exact HB.out | apply below_alloc | apply pw_below_drewN | apply below_drew1 | refine below_set ?_ GE165.out) | exact HB.out))); (case aF => exact (fun k_ hk => Kd.fresh' (Kd.R_lt (by (with_reducible repeat (first | apply Kd.R_alloc | apply Kd.R_drewN | apply Kd.R_drew)); exact HO_13.out)) k_ hk)); (case aO => exact (by (with_reducible repeat (first | apply Kd.R_alloc | apply Kd.R_drewN | apply Kd.R_drew)); exact HO_12.out)); (case aS => exact (below_size (by repeat (first | (with_reducible first | exact HB.out | apply below_alloc | apply pw_below_drewN | apply below_drew1 | refine below_set ?_ GE165.out) | exact HB.out)))); (case aL => have := LMc42.out; omega); intro v177 w44 ho hb hg hat; rw [← Ny176.out] at ho; have n0_ := Aside0.mk (Kd.R_after (ok := (fun _ => True)) (by (with_reducible repeat (first | apply Kd.R_alloc | apply Kd.R_drewN | apply Kd.R_drew)); exact Kd.R_mono HO_13.out (fun _ hk => ⟨trivial, hk⟩)) hg hat); have n1_ := Aside0.mk (blk_grown (g := gb165) (o := .cells #[.int .i64 a2_0, .int .i64 a2_1] 34 (0, 0)) (by (with_reducible repeat (first | refine blk_drewN ?_ _ | refine blk_drew ?_ | refine blk_alloc ?_ _)); exact BK165.out) hg (Kd.R_ne HO_12.out BK165.out (by decide))); have n2_ := Aside0.mk (hb); have n3_ := Aside0.mk (ho); clear HO_13; clear BK165; clear HB; clear HO_12; have HO_13 := n0_; have BK165 := n1_; have HB := n2_; have HO178 := n3_; clear n0_ n1_ n2_ n3_; clear ho hb hg hat) | ((with_reducible refine gate_builtin (b := .append) (xs := #[.tmp 97, .tmp 99]) rfl ?_); (try (refine gate_guard (by rfl) ?_; dsimp only)); at_builtin; refine Kd.R_append Kd.string (w0 := w) w.heap.size rfl (.tmp 97) (.tmp 99) 33 9 (.string ⟨#[]⟩) 16 rfl Try.underlying33 info9 rfl (by decide) (by omega) u13 x13_2 ((⟨#[110]⟩ : ByteArray) ++ (strOfNums y168)) [.string ((⟨#[110]⟩ : ByteArray) ++ (strOfNums y168))] (fun k_ => some k_ ≠ (v177 : Value).ownBlock) (fun _ => False) rfl rfl ?aP (fun _ hk => hk.elim) ?aF ?aO ?aB ?aS ?aL ?_; (case aP => exact rfl); (case aB => exact (by repeat (first | (with_reducible first | exact HB.out | apply below_alloc | apply pw_below_drewN | apply below_drew1 | refine below_set ?_ GE165.out) | exact HB.out))); (case aF => exact (fun k_ hk => Kd.fresh' (Kd.R_lt (by (with_reducible repeat (first | apply Kd.R_alloc | apply Kd.R_drewN | apply Kd.R_drew)); exact HO178.out)) k_ hk)); (case aO => exact (by (with_reducible repeat (first | apply Kd.R_alloc | apply Kd.R_drewN | apply Kd.R_drew)); exact Kd.R_mono HO_13.out (fun _ hk => hk.2))); (case aS => exact (below_size (by repeat (first | (with_reducible first | exact HB.out | apply below_alloc | apply pw_below_drewN | apply below_drew1 | refine below_set ?_ GE165.out) | exact HB.out)))); (case aL => have := LMc43.out; omega); intro v180 w45 ho hb hg hat; rw [← Ny179.out] at ho; have n0_ := Aside0.mk (blk_grown (g := gb165) (o := .cells #[.int .i64 a2_0, .int .i64 a2_1] 34 (0, 0)) (by (with_reducible repeat (first | refine blk_drewN ?_ _ | refine blk_drew ?_ | refine blk_alloc ?_ _)); exact BK165.out) hg (Kd.R_ne HO_13.out BK165.out (by decide))); have n1_ := Aside0.mk (Kd.R_after (ok := (fun _ => True)) (by (with_reducible repeat (first | apply Kd.R_alloc | apply Kd.R_drewN | apply Kd.R_drew)); exact Kd.R_mono HO178.out (fun _ hk => ⟨trivial, hk⟩)) hg hat); have n2_ := Aside0.mk (hb); have n3_ := Aside0.mk (ho); clear BK165; clear HO178; clear HB; clear HO_13; have BK165 := n0_; have HO178 := n1_; have HB := n2_; have HO181 := n3_; clear n0_ n1_ n2_ n3_; clear ho hb hg hat)))
                                                        go_roundg kj22
                                                        case measure => have := HK1.out; have := HK2.out; have := HJ12.out; have := HJ22.out; omega
                                                        case rel => exact ⟨(((((((((x11_2 ++ (⟨#[32]⟩ : ByteArray)) ++ x8_1) ++ ((⟨#[110]⟩ : ByteArray) ++ (strOfNums y168))) ++ x8_1) ++ (⟨#[61]⟩ : ByteArray)) ++ x8_1) ++ (⟨#[39]⟩ : ByteArray)) ++ t175) ++ (⟨#[39]⟩ : ByteArray)), (y176), (y179), (wrap64 (x14_2 + 1)), (by first | rfl | (simp; done) | (simp [*]; done)), (by first | rfl | (simp; done) | (simp [*]; done)), H', ⟨by have := HK1.out; have := HK2.out; have := HJ12.out; have := HJ22.out; omega⟩, ⟨by (with_reducible repeat (first | apply Kd.R_alloc | apply Kd.R_drewN | apply Kd.R_drew)); exact Kd.R_mono HO178.out (fun _ hk => hk.2)⟩, ⟨by (with_reducible repeat (first | apply Kd.R_alloc | apply Kd.R_drewN | apply Kd.R_drew)); exact HO181.out⟩, ⟨by (with_reducible repeat (first | refine blk_drewN ?_ _ | refine blk_drew ?_ | refine blk_alloc ?_ _)); exact BK165.out⟩, ⟨by repeat (first | (with_reducible first | exact HB.out | apply below_alloc | apply pw_below_drewN | apply below_drew1 | refine below_set ?_ GE165.out) | exact HB.out)⟩⟩
                                                      · rw [if_neg c43] at H
                                                        exact absurd H (by simp)
                                                    · rw [if_neg c42] at H
                                                      exact absurd H (by simp)
                                                  · rw [if_neg c41] at H
                                                    exact absurd H (by simp)
                                                · rw [if_neg c40] at H
                                                  exact absurd H (by simp)
                                              · rw [if_neg c38] at H
                                                exact absurd H (by simp)
                                            · rw [if_neg c37] at H
                                              exact absurd H (by simp)
                                          · rw [if_neg c36] at H
                                            exact absurd H (by simp)
                                        · rw [if_neg c35] at H
                                          exact absurd H (by simp)
                                      · rw [if_neg c34] at H
                                        exact absurd H (by simp)
                                    · rw [if_neg c33] at H
                                      exact absurd H (by simp)
                                  · rw [if_neg c32] at H
                                    exact absurd H (by simp)
                                · replace c31 := Bool.eq_false_iff.mpr c31
                                  subst c31
                                  have H1 : (if x11_2.size + 1 ≤ 9223372036854775807 then (if (x11_2 ++ (⟨#[32]⟩ : ByteArray)).size + x8_1.size ≤ 9223372036854775807 then (if ((x11_2 ++ (⟨#[32]⟩ : ByteArray)) ++ x8_1).size + ((⟨#[110]⟩ : ByteArray) ++ (strOfNums y168)).size ≤ 9223372036854775807 then (if (((x11_2 ++ (⟨#[32]⟩ : ByteArray)) ++ x8_1) ++ ((⟨#[110]⟩ : ByteArray) ++ (strOfNums y168))).size + x8_1.size ≤ 9223372036854775807 then (if ((((x11_2 ++ (⟨#[32]⟩ : ByteArray)) ++ x8_1) ++ ((⟨#[110]⟩ : ByteArray) ++ (strOfNums y168))) ++ x8_1).size + 1 ≤ 9223372036854775807 then (if (((((x11_2 ++ (⟨#[32]⟩ : ByteArray)) ++ x8_1) ++ ((⟨#[110]⟩ : ByteArray) ++ (strOfNums y168))) ++ x8_1) ++ (⟨#[61]⟩ : ByteArray)).size + x8_1.size ≤ 9223372036854775807 then (if ((((((x11_2 ++ (⟨#[32]⟩ : ByteArray)) ++ x8_1) ++ ((⟨#[110]⟩ : ByteArray) ++ (strOfNums y168))) ++ x8_1) ++ (⟨#[61]⟩ : ByteArray)) ++ x8_1).size + 1 ≤ 9223372036854775807 then ((topiaryref11_Escape.f kj22 x16_22).bind fun t182 => (if (((((((x11_2 ++ (⟨#[32]⟩ : ByteArray)) ++ x8_1) ++ ((⟨#[110]⟩ : ByteArray) ++ (strOfNums y168))) ++ x8_1) ++ (⟨#[61]⟩ : ByteArray)) ++ x8_1) ++ (⟨#[39]⟩ : ByteArray)).size + t182.size ≤ 9223372036854775807 then (if ((((((((x11_2 ++ (⟨#[32]⟩ : ByteArray)) ++ x8_1) ++ ((⟨#[110]⟩ : ByteArray) ++ (strOfNums y168))) ++ x8_1) ++ (⟨#[61]⟩ : ByteArray)) ++ x8_1) ++ (⟨#[39]⟩ : ByteArray)) ++ t182).size + 1 ≤ 9223372036854775807 then (if x12_2.length < 8796093022208 then (if x13_2.length < 8796093022208 then (topiarylaw12_LexerWrites.l1 kj22 l0 l1 t166 x8_1 (((((((((x11_2 ++ (⟨#[32]⟩ : ByteArray)) ++ x8_1) ++ ((⟨#[110]⟩ : ByteArray) ++ (strOfNums y168))) ++ x8_1) ++ (⟨#[61]⟩ : ByteArray)) ++ x8_1) ++ (⟨#[39]⟩ : ByteArray)) ++ t182) ++ (⟨#[39]⟩ : ByteArray)) (x12_2 ++ [x16_22]) (x13_2 ++ [((⟨#[110]⟩ : ByteArray) ++ (strOfNums y168))]) (wrap64 (x14_2 + 1)) a2_0 a2_1) else (none)) else (none)) else (none)) else (none))) else (none)) else (none)) else (none)) else (none)) else (none)) else (none)) else (none)) = some r := by rw [if_neg (show ¬ (false = true) by decide)] at H; exact H
                                  clear H
                                  have H := H1
                                  clear H1
                                  by_cases c46 : x11_2.size + 1 ≤ 9223372036854775807
                                  · rw [if_pos c46] at H
                                    have c46b0 := eq_true c46
                                    have c46b1 : decide (x11_2.size + 1 ≤ 9223372036854775807) = true := decide_eq_true c46
                                    try have c46b2 : (9223372036854775807 < x11_2.size + 1) = False := eq_false (Nat.not_lt.2 c46)
                                    by_cases c47 : (x11_2 ++ (⟨#[32]⟩ : ByteArray)).size + x8_1.size ≤ 9223372036854775807
                                    · rw [if_pos c47] at H
                                      have c47b0 := eq_true c47
                                      have c47b1 : decide ((x11_2 ++ (⟨#[32]⟩ : ByteArray)).size + x8_1.size ≤ 9223372036854775807) = true := decide_eq_true c47
                                      try have c47b2 : (9223372036854775807 < (x11_2 ++ (⟨#[32]⟩ : ByteArray)).size + x8_1.size) = False := eq_false (Nat.not_lt.2 c47)
                                      by_cases c48 : ((x11_2 ++ (⟨#[32]⟩ : ByteArray)) ++ x8_1).size + ((⟨#[110]⟩ : ByteArray) ++ (strOfNums y168)).size ≤ 9223372036854775807
                                      · rw [if_pos c48] at H
                                        have c48b0 := eq_true c48
                                        have c48b1 : decide (((x11_2 ++ (⟨#[32]⟩ : ByteArray)) ++ x8_1).size + ((⟨#[110]⟩ : ByteArray) ++ (strOfNums y168)).size ≤ 9223372036854775807) = true := decide_eq_true c48
                                        try have c48b2 : (9223372036854775807 < ((x11_2 ++ (⟨#[32]⟩ : ByteArray)) ++ x8_1).size + ((⟨#[110]⟩ : ByteArray) ++ (strOfNums y168)).size) = False := eq_false (Nat.not_lt.2 c48)
                                        by_cases c49 : (((x11_2 ++ (⟨#[32]⟩ : ByteArray)) ++ x8_1) ++ ((⟨#[110]⟩ : ByteArray) ++ (strOfNums y168))).size + x8_1.size ≤ 9223372036854775807
                                        · rw [if_pos c49] at H
                                          have c49b0 := eq_true c49
                                          have c49b1 : decide ((((x11_2 ++ (⟨#[32]⟩ : ByteArray)) ++ x8_1) ++ ((⟨#[110]⟩ : ByteArray) ++ (strOfNums y168))).size + x8_1.size ≤ 9223372036854775807) = true := decide_eq_true c49
                                          try have c49b2 : (9223372036854775807 < (((x11_2 ++ (⟨#[32]⟩ : ByteArray)) ++ x8_1) ++ ((⟨#[110]⟩ : ByteArray) ++ (strOfNums y168))).size + x8_1.size) = False := eq_false (Nat.not_lt.2 c49)
                                          by_cases c50 : ((((x11_2 ++ (⟨#[32]⟩ : ByteArray)) ++ x8_1) ++ ((⟨#[110]⟩ : ByteArray) ++ (strOfNums y168))) ++ x8_1).size + 1 ≤ 9223372036854775807
                                          · rw [if_pos c50] at H
                                            have c50b0 := eq_true c50
                                            have c50b1 : decide (((((x11_2 ++ (⟨#[32]⟩ : ByteArray)) ++ x8_1) ++ ((⟨#[110]⟩ : ByteArray) ++ (strOfNums y168))) ++ x8_1).size + 1 ≤ 9223372036854775807) = true := decide_eq_true c50
                                            try have c50b2 : (9223372036854775807 < ((((x11_2 ++ (⟨#[32]⟩ : ByteArray)) ++ x8_1) ++ ((⟨#[110]⟩ : ByteArray) ++ (strOfNums y168))) ++ x8_1).size + 1) = False := eq_false (Nat.not_lt.2 c50)
                                            have c50z : x11_2.size + 1 + x8_1.size + (1 + (strOfNums y168).size) + x8_1.size + 1 ≤ 9223372036854775807 := by have z_ := c50; simp only [ByteArray.size_append] at z_; exact z_
                                            have c50zb2 : (9223372036854775807 < x11_2.size + 1 + x8_1.size + (1 + (strOfNums y168).size) + x8_1.size + 1) = False := eq_false (Nat.not_lt.2 c50z)
                                            by_cases c51 : (((((x11_2 ++ (⟨#[32]⟩ : ByteArray)) ++ x8_1) ++ ((⟨#[110]⟩ : ByteArray) ++ (strOfNums y168))) ++ x8_1) ++ (⟨#[61]⟩ : ByteArray)).size + x8_1.size ≤ 9223372036854775807
                                            · rw [if_pos c51] at H
                                              have c51b0 := eq_true c51
                                              have c51b1 : decide ((((((x11_2 ++ (⟨#[32]⟩ : ByteArray)) ++ x8_1) ++ ((⟨#[110]⟩ : ByteArray) ++ (strOfNums y168))) ++ x8_1) ++ (⟨#[61]⟩ : ByteArray)).size + x8_1.size ≤ 9223372036854775807) = true := decide_eq_true c51
                                              try have c51b2 : (9223372036854775807 < (((((x11_2 ++ (⟨#[32]⟩ : ByteArray)) ++ x8_1) ++ ((⟨#[110]⟩ : ByteArray) ++ (strOfNums y168))) ++ x8_1) ++ (⟨#[61]⟩ : ByteArray)).size + x8_1.size) = False := eq_false (Nat.not_lt.2 c51)
                                              by_cases c52 : ((((((x11_2 ++ (⟨#[32]⟩ : ByteArray)) ++ x8_1) ++ ((⟨#[110]⟩ : ByteArray) ++ (strOfNums y168))) ++ x8_1) ++ (⟨#[61]⟩ : ByteArray)) ++ x8_1).size + 1 ≤ 9223372036854775807
                                              · rw [if_pos c52] at H
                                                have c52b0 := eq_true c52
                                                have c52b1 : decide (((((((x11_2 ++ (⟨#[32]⟩ : ByteArray)) ++ x8_1) ++ ((⟨#[110]⟩ : ByteArray) ++ (strOfNums y168))) ++ x8_1) ++ (⟨#[61]⟩ : ByteArray)) ++ x8_1).size + 1 ≤ 9223372036854775807) = true := decide_eq_true c52
                                                try have c52b2 : (9223372036854775807 < ((((((x11_2 ++ (⟨#[32]⟩ : ByteArray)) ++ x8_1) ++ ((⟨#[110]⟩ : ByteArray) ++ (strOfNums y168))) ++ x8_1) ++ (⟨#[61]⟩ : ByteArray)) ++ x8_1).size + 1) = False := eq_false (Nat.not_lt.2 c52)
                                                have c52z : x11_2.size + 1 + x8_1.size + (1 + (strOfNums y168).size) + x8_1.size + 1 + x8_1.size + 1 ≤ 9223372036854775807 := by have z_ := c52; simp only [ByteArray.size_append] at z_; exact z_
                                                have c52zb2 : (9223372036854775807 < x11_2.size + 1 + x8_1.size + (1 + (strOfNums y168).size) + x8_1.size + 1 + x8_1.size + 1) = False := eq_false (Nat.not_lt.2 c52z)
                                                replace H := Option.bind_eq_some_iff.mp H
                                                obtain ⟨t182, A530, H⟩ := H
                                                replace H : (if (((((((x11_2 ++ (⟨#[32]⟩ : ByteArray)) ++ x8_1) ++ ((⟨#[110]⟩ : ByteArray) ++ (strOfNums y168))) ++ x8_1) ++ (⟨#[61]⟩ : ByteArray)) ++ x8_1) ++ (⟨#[39]⟩ : ByteArray)).size + t182.size ≤ 9223372036854775807 then (if ((((((((x11_2 ++ (⟨#[32]⟩ : ByteArray)) ++ x8_1) ++ ((⟨#[110]⟩ : ByteArray) ++ (strOfNums y168))) ++ x8_1) ++ (⟨#[61]⟩ : ByteArray)) ++ x8_1) ++ (⟨#[39]⟩ : ByteArray)) ++ t182).size + 1 ≤ 9223372036854775807 then (if x12_2.length < 8796093022208 then (if x13_2.length < 8796093022208 then (topiarylaw12_LexerWrites.l1 kj22 l0 l1 t166 x8_1 (((((((((x11_2 ++ (⟨#[32]⟩ : ByteArray)) ++ x8_1) ++ ((⟨#[110]⟩ : ByteArray) ++ (strOfNums y168))) ++ x8_1) ++ (⟨#[61]⟩ : ByteArray)) ++ x8_1) ++ (⟨#[39]⟩ : ByteArray)) ++ t182) ++ (⟨#[39]⟩ : ByteArray)) (x12_2 ++ [x16_22]) (x13_2 ++ [((⟨#[110]⟩ : ByteArray) ++ (strOfNums y168))]) (wrap64 (x14_2 + 1)) a2_0 a2_1) else (none)) else (none)) else (none)) else (none)) = some r := H
                                                have A53 := Aside0.mk A530
                                                clear A530
                                                by_cases c54 : (((((((x11_2 ++ (⟨#[32]⟩ : ByteArray)) ++ x8_1) ++ ((⟨#[110]⟩ : ByteArray) ++ (strOfNums y168))) ++ x8_1) ++ (⟨#[61]⟩ : ByteArray)) ++ x8_1) ++ (⟨#[39]⟩ : ByteArray)).size + t182.size ≤ 9223372036854775807
                                                · rw [if_pos c54] at H
                                                  have c54b0 := eq_true c54
                                                  have c54b1 : decide ((((((((x11_2 ++ (⟨#[32]⟩ : ByteArray)) ++ x8_1) ++ ((⟨#[110]⟩ : ByteArray) ++ (strOfNums y168))) ++ x8_1) ++ (⟨#[61]⟩ : ByteArray)) ++ x8_1) ++ (⟨#[39]⟩ : ByteArray)).size + t182.size ≤ 9223372036854775807) = true := decide_eq_true c54
                                                  try have c54b2 : (9223372036854775807 < (((((((x11_2 ++ (⟨#[32]⟩ : ByteArray)) ++ x8_1) ++ ((⟨#[110]⟩ : ByteArray) ++ (strOfNums y168))) ++ x8_1) ++ (⟨#[61]⟩ : ByteArray)) ++ x8_1) ++ (⟨#[39]⟩ : ByteArray)).size + t182.size) = False := eq_false (Nat.not_lt.2 c54)
                                                  by_cases c55 : ((((((((x11_2 ++ (⟨#[32]⟩ : ByteArray)) ++ x8_1) ++ ((⟨#[110]⟩ : ByteArray) ++ (strOfNums y168))) ++ x8_1) ++ (⟨#[61]⟩ : ByteArray)) ++ x8_1) ++ (⟨#[39]⟩ : ByteArray)) ++ t182).size + 1 ≤ 9223372036854775807
                                                  · rw [if_pos c55] at H
                                                    have c55b0 := eq_true c55
                                                    have c55b1 : decide (((((((((x11_2 ++ (⟨#[32]⟩ : ByteArray)) ++ x8_1) ++ ((⟨#[110]⟩ : ByteArray) ++ (strOfNums y168))) ++ x8_1) ++ (⟨#[61]⟩ : ByteArray)) ++ x8_1) ++ (⟨#[39]⟩ : ByteArray)) ++ t182).size + 1 ≤ 9223372036854775807) = true := decide_eq_true c55
                                                    try have c55b2 : (9223372036854775807 < ((((((((x11_2 ++ (⟨#[32]⟩ : ByteArray)) ++ x8_1) ++ ((⟨#[110]⟩ : ByteArray) ++ (strOfNums y168))) ++ x8_1) ++ (⟨#[61]⟩ : ByteArray)) ++ x8_1) ++ (⟨#[39]⟩ : ByteArray)) ++ t182).size + 1) = False := eq_false (Nat.not_lt.2 c55)
                                                    have c55z : x11_2.size + 1 + x8_1.size + (1 + (strOfNums y168).size) + x8_1.size + 1 + x8_1.size + 1 + t182.size + 1 ≤ 9223372036854775807 := by have z_ := c55; simp only [ByteArray.size_append] at z_; exact z_
                                                    have c55zb2 : (9223372036854775807 < x11_2.size + 1 + x8_1.size + (1 + (strOfNums y168).size) + x8_1.size + 1 + x8_1.size + 1 + t182.size + 1) = False := eq_false (Nat.not_lt.2 c55z)
                                                    by_cases c56 : x12_2.length < 8796093022208
                                                    · rw [if_pos c56] at H
                                                      have LMc56 := Aside0.mk c56
                                                      clear c56
                                                      obtain ⟨y183, hy183⟩ : ∃ y_ : List ByteArray, y_ = (x12_2 ++ [x16_22]) := ⟨_, rfl⟩
                                                      replace H : (if x13_2.length < 8796093022208 then (topiarylaw12_LexerWrites.l1 kj22 l0 l1 t166 x8_1 (((((((((x11_2 ++ (⟨#[32]⟩ : ByteArray)) ++ x8_1) ++ ((⟨#[110]⟩ : ByteArray) ++ (strOfNums y168))) ++ x8_1) ++ (⟨#[61]⟩ : ByteArray)) ++ x8_1) ++ (⟨#[39]⟩ : ByteArray)) ++ t182) ++ (⟨#[39]⟩ : ByteArray)) y183 (x13_2 ++ [((⟨#[110]⟩ : ByteArray) ++ (strOfNums y168))]) (wrap64 (x14_2 + 1)) a2_0 a2_1) else (none)) = some r := by first | (rw [hy183]; with_reducible exact H) | (have H2_ := (Option.bind_some _ _).symm.trans H; rw [hy183]; with_reducible exact H2_) | (have H2_ := (Option.bind_some _ _).symm.trans H; with_reducible exact H2_) | with_reducible exact H | (rw [hy183]; exact H) | exact H
                                                      have Ny183 := Aside0.mk hy183
                                                      clear hy183
                                                      by_cases c57 : x13_2.length < 8796093022208
                                                      · rw [if_pos c57] at H
                                                        have LMc57 := Aside0.mk c57
                                                        clear c57
                                                        obtain ⟨y186, hy186⟩ : ∃ y_ : List ByteArray, y_ = (x13_2 ++ [((⟨#[110]⟩ : ByteArray) ++ (strOfNums y168))]) := ⟨_, rfl⟩
                                                        replace H : (topiarylaw12_LexerWrites.l1 kj22 l0 l1 t166 x8_1 (((((((((x11_2 ++ (⟨#[32]⟩ : ByteArray)) ++ x8_1) ++ ((⟨#[110]⟩ : ByteArray) ++ (strOfNums y168))) ++ x8_1) ++ (⟨#[61]⟩ : ByteArray)) ++ x8_1) ++ (⟨#[39]⟩ : ByteArray)) ++ t182) ++ (⟨#[39]⟩ : ByteArray)) y183 y186 (wrap64 (x14_2 + 1)) a2_0 a2_1) = some r := by first | (rw [hy186]; with_reducible exact H) | (have H2_ := (Option.bind_some _ _).symm.trans H; rw [hy186]; with_reducible exact H2_) | (have H2_ := (Option.bind_some _ _).symm.trans H; with_reducible exact H2_) | with_reducible exact H | (rw [hy186]; exact H) | exact H
                                                        have Ny186 := Aside0.mk hy186
                                                        clear hy186
                                                        have H' := Aside0.mk H
                                                        clear H
                                                        go_wp2_with (first | (go_at_call 22; (with_reducible refine (topiarylaw12_has.calls kj22 x16_22 39 false _ A30.out).mono ?_); rintro e w' ⟨rfl, ⟨nd, rfl⟩⟩; (try first | exact ⟨rfl, _, World.drewN_drewN _ _ _⟩ | exact ⟨rfl, _, Eq.trans (World.drewN_drewN _ _ _) (congrArg (World.drewN _) (Nat.add_assoc _ _ _))⟩)) | (go_at_call 11; (with_reducible refine (topiaryref11_Escape.calls kj22 x16_22 t182 _ A53.out).mono ?_); rintro e w' ⟨rfl, ⟨nd, rfl⟩⟩; (try first | exact ⟨rfl, _, World.drewN_drewN _ _ _⟩ | exact ⟨rfl, _, Eq.trans (World.drewN_drewN _ _ _) (congrArg (World.drewN _) (Nat.add_assoc _ _ _))⟩)) | ((with_reducible refine gate_builtin (b := .append) (xs := #[.tmp 93, .tmp 95]) rfl ?_); (try (refine gate_guard (by rfl) ?_; dsimp only)); at_builtin; refine Kd.R_append Kd.string (w0 := w) w.heap.size rfl (.tmp 93) (.tmp 95) 33 9 (.string ⟨#[]⟩) 16 rfl Try.underlying33 info9 rfl (by decide) (by omega) u12 x12_2 x16_22 [.string x16_22] (fun k_ => some k_ ≠ (u13 : Value).ownBlock) (fun _ => False) rfl rfl ?aP (fun _ hk => hk.elim) ?aF ?aO ?aB ?aS ?aL ?_; (case aP => exact rfl); (case aB => exact (by repeat (first | (with_reducible first | exact HB.out | apply below_alloc | apply pw_below_drewN | apply below_drew1 | refine below_set ?_ GE165.out) | exact HB.out))); (case aF => exact (fun k_ hk => Kd.fresh' (Kd.R_lt (by (with_reducible repeat (first | apply Kd.R_alloc | apply Kd.R_drewN | apply Kd.R_drew)); exact HO_13.out)) k_ hk)); (case aO => exact (by (with_reducible repeat (first | apply Kd.R_alloc | apply Kd.R_drewN | apply Kd.R_drew)); exact HO_12.out)); (case aS => exact (below_size (by repeat (first | (with_reducible first | exact HB.out | apply below_alloc | apply pw_below_drewN | apply below_drew1 | refine below_set ?_ GE165.out) | exact HB.out)))); (case aL => have := LMc56.out; omega); intro v184 w58 ho hb hg hat; rw [← Ny183.out] at ho; have n0_ := Aside0.mk (Kd.R_after (ok := (fun _ => True)) (by (with_reducible repeat (first | apply Kd.R_alloc | apply Kd.R_drewN | apply Kd.R_drew)); exact Kd.R_mono HO_13.out (fun _ hk => ⟨trivial, hk⟩)) hg hat); have n1_ := Aside0.mk (blk_grown (g := gb165) (o := .cells #[.int .i64 a2_0, .int .i64 a2_1] 34 (0, 0)) (by (with_reducible repeat (first | refine blk_drewN ?_ _ | refine blk_drew ?_ | refine blk_alloc ?_ _)); exact BK165.out) hg (Kd.R_ne HO_12.out BK165.out (by decide))); have n2_ := Aside0.mk (hb); have n3_ := Aside0.mk (ho); clear HO_13; clear BK165; clear HB; clear HO_12; have HO_13 := n0_; have BK165 := n1_; have HB := n2_; have HO185 := n3_; clear n0_ n1_ n2_ n3_; clear ho hb hg hat) | ((with_reducible refine gate_builtin (b := .append) (xs := #[.tmp 97, .tmp 99]) rfl ?_); (try (refine gate_guard (by rfl) ?_; dsimp only)); at_builtin; refine Kd.R_append Kd.string (w0 := w) w.heap.size rfl (.tmp 97) (.tmp 99) 33 9 (.string ⟨#[]⟩) 16 rfl Try.underlying33 info9 rfl (by decide) (by omega) u13 x13_2 ((⟨#[110]⟩ : ByteArray) ++ (strOfNums y168)) [.string ((⟨#[110]⟩ : ByteArray) ++ (strOfNums y168))] (fun k_ => some k_ ≠ (v184 : Value).ownBlock) (fun _ => False) rfl rfl ?aP (fun _ hk => hk.elim) ?aF ?aO ?aB ?aS ?aL ?_; (case aP => exact rfl); (case aB => exact (by repeat (first | (with_reducible first | exact HB.out | apply below_alloc | apply pw_below_drewN | apply below_drew1 | refine below_set ?_ GE165.out) | exact HB.out))); (case aF => exact (fun k_ hk => Kd.fresh' (Kd.R_lt (by (with_reducible repeat (first | apply Kd.R_alloc | apply Kd.R_drewN | apply Kd.R_drew)); exact HO185.out)) k_ hk)); (case aO => exact (by (with_reducible repeat (first | apply Kd.R_alloc | apply Kd.R_drewN | apply Kd.R_drew)); exact Kd.R_mono HO_13.out (fun _ hk => hk.2))); (case aS => exact (below_size (by repeat (first | (with_reducible first | exact HB.out | apply below_alloc | apply pw_below_drewN | apply below_drew1 | refine below_set ?_ GE165.out) | exact HB.out)))); (case aL => have := LMc57.out; omega); intro v187 w59 ho hb hg hat; rw [← Ny186.out] at ho; have n0_ := Aside0.mk (blk_grown (g := gb165) (o := .cells #[.int .i64 a2_0, .int .i64 a2_1] 34 (0, 0)) (by (with_reducible repeat (first | refine blk_drewN ?_ _ | refine blk_drew ?_ | refine blk_alloc ?_ _)); exact BK165.out) hg (Kd.R_ne HO_13.out BK165.out (by decide))); have n1_ := Aside0.mk (Kd.R_after (ok := (fun _ => True)) (by (with_reducible repeat (first | apply Kd.R_alloc | apply Kd.R_drewN | apply Kd.R_drew)); exact Kd.R_mono HO185.out (fun _ hk => ⟨trivial, hk⟩)) hg hat); have n2_ := Aside0.mk (hb); have n3_ := Aside0.mk (ho); clear BK165; clear HO185; clear HB; clear HO_13; have BK165 := n0_; have HO185 := n1_; have HB := n2_; have HO188 := n3_; clear n0_ n1_ n2_ n3_; clear ho hb hg hat))
                                                        repeat (go_quiet (first | (go_at_call 22; (with_reducible refine (topiarylaw12_has.calls kj22 x16_22 39 false _ A30.out).mono ?_); rintro e w' ⟨rfl, ⟨nd, rfl⟩⟩; (try first | exact ⟨rfl, _, World.drewN_drewN _ _ _⟩ | exact ⟨rfl, _, Eq.trans (World.drewN_drewN _ _ _) (congrArg (World.drewN _) (Nat.add_assoc _ _ _))⟩)) | (go_at_call 11; (with_reducible refine (topiaryref11_Escape.calls kj22 x16_22 t182 _ A53.out).mono ?_); rintro e w' ⟨rfl, ⟨nd, rfl⟩⟩; (try first | exact ⟨rfl, _, World.drewN_drewN _ _ _⟩ | exact ⟨rfl, _, Eq.trans (World.drewN_drewN _ _ _) (congrArg (World.drewN _) (Nat.add_assoc _ _ _))⟩)) | ((with_reducible refine gate_builtin (b := .append) (xs := #[.tmp 93, .tmp 95]) rfl ?_); (try (refine gate_guard (by rfl) ?_; dsimp only)); at_builtin; refine Kd.R_append Kd.string (w0 := w) w.heap.size rfl (.tmp 93) (.tmp 95) 33 9 (.string ⟨#[]⟩) 16 rfl Try.underlying33 info9 rfl (by decide) (by omega) u12 x12_2 x16_22 [.string x16_22] (fun k_ => some k_ ≠ (u13 : Value).ownBlock) (fun _ => False) rfl rfl ?aP (fun _ hk => hk.elim) ?aF ?aO ?aB ?aS ?aL ?_; (case aP => exact rfl); (case aB => exact (by repeat (first | (with_reducible first | exact HB.out | apply below_alloc | apply pw_below_drewN | apply below_drew1 | refine below_set ?_ GE165.out) | exact HB.out))); (case aF => exact (fun k_ hk => Kd.fresh' (Kd.R_lt (by (with_reducible repeat (first | apply Kd.R_alloc | apply Kd.R_drewN | apply Kd.R_drew)); exact HO_13.out)) k_ hk)); (case aO => exact (by (with_reducible repeat (first | apply Kd.R_alloc | apply Kd.R_drewN | apply Kd.R_drew)); exact HO_12.out)); (case aS => exact (below_size (by repeat (first | (with_reducible first | exact HB.out | apply below_alloc | apply pw_below_drewN | apply below_drew1 | refine below_set ?_ GE165.out) | exact HB.out)))); (case aL => have := LMc56.out; omega); intro v184 w58 ho hb hg hat; rw [← Ny183.out] at ho; have n0_ := Aside0.mk (Kd.R_after (ok := (fun _ => True)) (by (with_reducible repeat (first | apply Kd.R_alloc | apply Kd.R_drewN | apply Kd.R_drew)); exact Kd.R_mono HO_13.out (fun _ hk => ⟨trivial, hk⟩)) hg hat); have n1_ := Aside0.mk (blk_grown (g := gb165) (o := .cells #[.int .i64 a2_0, .int .i64 a2_1] 34 (0, 0)) (by (with_reducible repeat (first | refine blk_drewN ?_ _ | refine blk_drew ?_ | refine blk_alloc ?_ _)); exact BK165.out) hg (Kd.R_ne HO_12.out BK165.out (by decide))); have n2_ := Aside0.mk (hb); have n3_ := Aside0.mk (ho); clear HO_13; clear BK165; clear HB; clear HO_12; have HO_13 := n0_; have BK165 := n1_; have HB := n2_; have HO185 := n3_; clear n0_ n1_ n2_ n3_; clear ho hb hg hat) | ((with_reducible refine gate_builtin (b := .append) (xs := #[.tmp 97, .tmp 99]) rfl ?_); (try (refine gate_guard (by rfl) ?_; dsimp only)); at_builtin; refine Kd.R_append Kd.string (w0 := w) w.heap.size rfl (.tmp 97) (.tmp 99) 33 9 (.string ⟨#[]⟩) 16 rfl Try.underlying33 info9 rfl (by decide) (by omega) u13 x13_2 ((⟨#[110]⟩ : ByteArray) ++ (strOfNums y168)) [.string ((⟨#[110]⟩ : ByteArray) ++ (strOfNums y168))] (fun k_ => some k_ ≠ (v184 : Value).ownBlock) (fun _ => False) rfl rfl ?aP (fun _ hk => hk.elim) ?aF ?aO ?aB ?aS ?aL ?_; (case aP => exact rfl); (case aB => exact (by repeat (first | (with_reducible first | exact HB.out | apply below_alloc | apply pw_below_drewN | apply below_drew1 | refine below_set ?_ GE165.out) | exact HB.out))); (case aF => exact (fun k_ hk => Kd.fresh' (Kd.R_lt (by (with_reducible repeat (first | apply Kd.R_alloc | apply Kd.R_drewN | apply Kd.R_drew)); exact HO185.out)) k_ hk)); (case aO => exact (by (with_reducible repeat (first | apply Kd.R_alloc | apply Kd.R_drewN | apply Kd.R_drew)); exact Kd.R_mono HO_13.out (fun _ hk => hk.2))); (case aS => exact (below_size (by repeat (first | (with_reducible first | exact HB.out | apply below_alloc | apply pw_below_drewN | apply below_drew1 | refine below_set ?_ GE165.out) | exact HB.out)))); (case aL => have := LMc57.out; omega); intro v187 w59 ho hb hg hat; rw [← Ny186.out] at ho; have n0_ := Aside0.mk (blk_grown (g := gb165) (o := .cells #[.int .i64 a2_0, .int .i64 a2_1] 34 (0, 0)) (by (with_reducible repeat (first | refine blk_drewN ?_ _ | refine blk_drew ?_ | refine blk_alloc ?_ _)); exact BK165.out) hg (Kd.R_ne HO_13.out BK165.out (by decide))); have n1_ := Aside0.mk (Kd.R_after (ok := (fun _ => True)) (by (with_reducible repeat (first | apply Kd.R_alloc | apply Kd.R_drewN | apply Kd.R_drew)); exact Kd.R_mono HO185.out (fun _ hk => ⟨trivial, hk⟩)) hg hat); have n2_ := Aside0.mk (hb); have n3_ := Aside0.mk (ho); clear BK165; clear HO185; clear HB; clear HO_13; have BK165 := n0_; have HO185 := n1_; have HB := n2_; have HO188 := n3_; clear n0_ n1_ n2_ n3_; clear ho hb hg hat)); try go_wp2_with (first | (go_at_call 22; (with_reducible refine (topiarylaw12_has.calls kj22 x16_22 39 false _ A30.out).mono ?_); rintro e w' ⟨rfl, ⟨nd, rfl⟩⟩; (try first | exact ⟨rfl, _, World.drewN_drewN _ _ _⟩ | exact ⟨rfl, _, Eq.trans (World.drewN_drewN _ _ _) (congrArg (World.drewN _) (Nat.add_assoc _ _ _))⟩)) | (go_at_call 11; (with_reducible refine (topiaryref11_Escape.calls kj22 x16_22 t182 _ A53.out).mono ?_); rintro e w' ⟨rfl, ⟨nd, rfl⟩⟩; (try first | exact ⟨rfl, _, World.drewN_drewN _ _ _⟩ | exact ⟨rfl, _, Eq.trans (World.drewN_drewN _ _ _) (congrArg (World.drewN _) (Nat.add_assoc _ _ _))⟩)) | ((with_reducible refine gate_builtin (b := .append) (xs := #[.tmp 93, .tmp 95]) rfl ?_); (try (refine gate_guard (by rfl) ?_; dsimp only)); at_builtin; refine Kd.R_append Kd.string (w0 := w) w.heap.size rfl (.tmp 93) (.tmp 95) 33 9 (.string ⟨#[]⟩) 16 rfl Try.underlying33 info9 rfl (by decide) (by omega) u12 x12_2 x16_22 [.string x16_22] (fun k_ => some k_ ≠ (u13 : Value).ownBlock) (fun _ => False) rfl rfl ?aP (fun _ hk => hk.elim) ?aF ?aO ?aB ?aS ?aL ?_; (case aP => exact rfl); (case aB => exact (by repeat (first | (with_reducible first | exact HB.out | apply below_alloc | apply pw_below_drewN | apply below_drew1 | refine below_set ?_ GE165.out) | exact HB.out))); (case aF => exact (fun k_ hk => Kd.fresh' (Kd.R_lt (by (with_reducible repeat (first | apply Kd.R_alloc | apply Kd.R_drewN | apply Kd.R_drew)); exact HO_13.out)) k_ hk)); (case aO => exact (by (with_reducible repeat (first | apply Kd.R_alloc | apply Kd.R_drewN | apply Kd.R_drew)); exact HO_12.out)); (case aS => exact (below_size (by repeat (first | (with_reducible first | exact HB.out | apply below_alloc | apply pw_below_drewN | apply below_drew1 | refine below_set ?_ GE165.out) | exact HB.out)))); (case aL => have := LMc56.out; omega); intro v184 w58 ho hb hg hat; rw [← Ny183.out] at ho; have n0_ := Aside0.mk (Kd.R_after (ok := (fun _ => True)) (by (with_reducible repeat (first | apply Kd.R_alloc | apply Kd.R_drewN | apply Kd.R_drew)); exact Kd.R_mono HO_13.out (fun _ hk => ⟨trivial, hk⟩)) hg hat); have n1_ := Aside0.mk (blk_grown (g := gb165) (o := .cells #[.int .i64 a2_0, .int .i64 a2_1] 34 (0, 0)) (by (with_reducible repeat (first | refine blk_drewN ?_ _ | refine blk_drew ?_ | refine blk_alloc ?_ _)); exact BK165.out) hg (Kd.R_ne HO_12.out BK165.out (by decide))); have n2_ := Aside0.mk (hb); have n3_ := Aside0.mk (ho); clear HO_13; clear BK165; clear HB; clear HO_12; have HO_13 := n0_; have BK165 := n1_; have HB := n2_; have HO185 := n3_; clear n0_ n1_ n2_ n3_; clear ho hb hg hat) | ((with_reducible refine gate_builtin (b := .append) (xs := #[.tmp 97, .tmp 99]) rfl ?_); (try (refine gate_guard (by rfl) ?_; dsimp only)); at_builtin; refine Kd.R_append Kd.string (w0 := w) w.heap.size rfl (.tmp 97) (.tmp 99) 33 9 (.string ⟨#[]⟩) 16 rfl Try.underlying33 info9 rfl (by decide) (by omega) u13 x13_2 ((⟨#[110]⟩ : ByteArray) ++ (strOfNums y168)) [.string ((⟨#[110]⟩ : ByteArray) ++ (strOfNums y168))] (fun k_ => some k_ ≠ (v184 : Value).ownBlock) (fun _ => False) rfl rfl ?aP (fun _ hk => hk.elim) ?aF ?aO ?aB ?aS ?aL ?_; (case aP => exact rfl); (case aB => exact (by repeat (first | (with_reducible first | exact HB.out | apply below_alloc | apply pw_below_drewN | apply below_drew1 | refine below_set ?_ GE165.out) | exact HB.out))); (case aF => exact (fun k_ hk => Kd.fresh' (Kd.R_lt (by (with_reducible repeat (first | apply Kd.R_alloc | apply Kd.R_drewN | apply Kd.R_drew)); exact HO185.out)) k_ hk)); (case aO => exact (by (with_reducible repeat (first | apply Kd.R_alloc | apply Kd.R_drewN | apply Kd.R_drew)); exact Kd.R_mono HO_13.out (fun _ hk => hk.2))); (case aS => exact (below_size (by repeat (first | (with_reducible first | exact HB.out | apply below_alloc | apply pw_below_drewN | apply below_drew1 | refine below_set ?_ GE165.out) | exact HB.out)))); (case aL => have := LMc57.out; omega); intro v187 w59 ho hb hg hat; rw [← Ny186.out] at ho; have n0_ := Aside0.mk (blk_grown (g := gb165) (o := .cells #[.int .i64 a2_0, .int .i64 a2_1] 34 (0, 0)) (by (with_reducible repeat (first | refine blk_drewN ?_ _ | refine blk_drew ?_ | refine blk_alloc ?_ _)); exact BK165.out) hg (Kd.R_ne HO_13.out BK165.out (by decide))); have n1_ := Aside0.mk (Kd.R_after (ok := (fun _ => True)) (by (with_reducible repeat (first | apply Kd.R_alloc | apply Kd.R_drewN | apply Kd.R_drew)); exact Kd.R_mono HO185.out (fun _ hk => ⟨trivial, hk⟩)) hg hat); have n2_ := Aside0.mk (hb); have n3_ := Aside0.mk (ho); clear BK165; clear HO185; clear HB; clear HO_13; have BK165 := n0_; have HO185 := n1_; have HB := n2_; have HO188 := n3_; clear n0_ n1_ n2_ n3_; clear ho hb hg hat)))
                                                        go_roundg kj22
                                                        case measure => have := HK1.out; have := HK2.out; have := HJ12.out; have := HJ22.out; omega
                                                        case rel => exact ⟨(((((((((x11_2 ++ (⟨#[32]⟩ : ByteArray)) ++ x8_1) ++ ((⟨#[110]⟩ : ByteArray) ++ (strOfNums y168))) ++ x8_1) ++ (⟨#[61]⟩ : ByteArray)) ++ x8_1) ++ (⟨#[39]⟩ : ByteArray)) ++ t182) ++ (⟨#[39]⟩ : ByteArray)), (y183), (y186), (wrap64 (x14_2 + 1)), (by first | rfl | (simp; done) | (simp [*]; done)), (by first | rfl | (simp; done) | (simp [*]; done)), H', ⟨by have := HK1.out; have := HK2.out; have := HJ12.out; have := HJ22.out; omega⟩, ⟨by (with_reducible repeat (first | apply Kd.R_alloc | apply Kd.R_drewN | apply Kd.R_drew)); exact Kd.R_mono HO185.out (fun _ hk => hk.2)⟩, ⟨by (with_reducible repeat (first | apply Kd.R_alloc | apply Kd.R_drewN | apply Kd.R_drew)); exact HO188.out⟩, ⟨by (with_reducible repeat (first | refine blk_drewN ?_ _ | refine blk_drew ?_ | refine blk_alloc ?_ _)); exact BK165.out⟩, ⟨by repeat (first | (with_reducible first | exact HB.out | apply below_alloc | apply pw_below_drewN | apply below_drew1 | refine below_set ?_ GE165.out) | exact HB.out)⟩⟩
                                                      · rw [if_neg c57] at H
                                                        exact absurd H (by simp)
                                                    · rw [if_neg c56] at H
                                                      exact absurd H (by simp)
                                                  · rw [if_neg c55] at H
                                                    exact absurd H (by simp)
                                                · rw [if_neg c54] at H
                                                  exact absurd H (by simp)
                                              · rw [if_neg c52] at H
                                                exact absurd H (by simp)
                                            · rw [if_neg c51] at H
                                              exact absurd H (by simp)
                                          · rw [if_neg c50] at H
                                            exact absurd H (by simp)
                                        · rw [if_neg c49] at H
                                          exact absurd H (by simp)
                                      · rw [if_neg c48] at H
                                        exact absurd H (by simp)
                                    · rw [if_neg c47] at H
                                      exact absurd H (by simp)
                                  · rw [if_neg c46] at H
                                    exact absurd H (by simp)
                              · rw [if_neg c29] at H
                                have c29b0 : ((Int.tmod x14_2 2) == 1) = false := beq_eq_false_iff_ne.mpr c29
                                have c29b1 : ((Int.tmod x14_2 2) != 1) = true := bne_iff_ne.mpr c29
                                by_cases c60 : x11_2.size + 1 ≤ 9223372036854775807
                                · rw [if_pos c60] at H
                                  have c60b0 := eq_true c60
                                  have c60b1 : decide (x11_2.size + 1 ≤ 9223372036854775807) = true := decide_eq_true c60
                                  try have c60b2 : (9223372036854775807 < x11_2.size + 1) = False := eq_false (Nat.not_lt.2 c60)
                                  by_cases c61 : (x11_2 ++ (⟨#[32]⟩ : ByteArray)).size + x8_1.size ≤ 9223372036854775807
                                  · rw [if_pos c61] at H
                                    have c61b0 := eq_true c61
                                    have c61b1 : decide ((x11_2 ++ (⟨#[32]⟩ : ByteArray)).size + x8_1.size ≤ 9223372036854775807) = true := decide_eq_true c61
                                    try have c61b2 : (9223372036854775807 < (x11_2 ++ (⟨#[32]⟩ : ByteArray)).size + x8_1.size) = False := eq_false (Nat.not_lt.2 c61)
                                    by_cases c62 : ((x11_2 ++ (⟨#[32]⟩ : ByteArray)) ++ x8_1).size + ((⟨#[110]⟩ : ByteArray) ++ (strOfNums y168)).size ≤ 9223372036854775807
                                    · rw [if_pos c62] at H
                                      have c62b0 := eq_true c62
                                      have c62b1 : decide (((x11_2 ++ (⟨#[32]⟩ : ByteArray)) ++ x8_1).size + ((⟨#[110]⟩ : ByteArray) ++ (strOfNums y168)).size ≤ 9223372036854775807) = true := decide_eq_true c62
                                      try have c62b2 : (9223372036854775807 < ((x11_2 ++ (⟨#[32]⟩ : ByteArray)) ++ x8_1).size + ((⟨#[110]⟩ : ByteArray) ++ (strOfNums y168)).size) = False := eq_false (Nat.not_lt.2 c62)
                                      by_cases c63 : (((x11_2 ++ (⟨#[32]⟩ : ByteArray)) ++ x8_1) ++ ((⟨#[110]⟩ : ByteArray) ++ (strOfNums y168))).size + x8_1.size ≤ 9223372036854775807
                                      · rw [if_pos c63] at H
                                        have c63b0 := eq_true c63
                                        have c63b1 : decide ((((x11_2 ++ (⟨#[32]⟩ : ByteArray)) ++ x8_1) ++ ((⟨#[110]⟩ : ByteArray) ++ (strOfNums y168))).size + x8_1.size ≤ 9223372036854775807) = true := decide_eq_true c63
                                        try have c63b2 : (9223372036854775807 < (((x11_2 ++ (⟨#[32]⟩ : ByteArray)) ++ x8_1) ++ ((⟨#[110]⟩ : ByteArray) ++ (strOfNums y168))).size + x8_1.size) = False := eq_false (Nat.not_lt.2 c63)
                                        by_cases c64 : ((((x11_2 ++ (⟨#[32]⟩ : ByteArray)) ++ x8_1) ++ ((⟨#[110]⟩ : ByteArray) ++ (strOfNums y168))) ++ x8_1).size + 1 ≤ 9223372036854775807
                                        · rw [if_pos c64] at H
                                          have c64b0 := eq_true c64
                                          have c64b1 : decide (((((x11_2 ++ (⟨#[32]⟩ : ByteArray)) ++ x8_1) ++ ((⟨#[110]⟩ : ByteArray) ++ (strOfNums y168))) ++ x8_1).size + 1 ≤ 9223372036854775807) = true := decide_eq_true c64
                                          try have c64b2 : (9223372036854775807 < ((((x11_2 ++ (⟨#[32]⟩ : ByteArray)) ++ x8_1) ++ ((⟨#[110]⟩ : ByteArray) ++ (strOfNums y168))) ++ x8_1).size + 1) = False := eq_false (Nat.not_lt.2 c64)
                                          have c64z : x11_2.size + 1 + x8_1.size + (1 + (strOfNums y168).size) + x8_1.size + 1 ≤ 9223372036854775807 := by have z_ := c64; simp only [ByteArray.size_append] at z_; exact z_
                                          have c64zb2 : (9223372036854775807 < x11_2.size + 1 + x8_1.size + (1 + (strOfNums y168).size) + x8_1.size + 1) = False := eq_false (Nat.not_lt.2 c64z)
                                          by_cases c65 : (((((x11_2 ++ (⟨#[32]⟩ : ByteArray)) ++ x8_1) ++ ((⟨#[110]⟩ : ByteArray) ++ (strOfNums y168))) ++ x8_1) ++ (⟨#[61]⟩ : ByteArray)).size + x8_1.size ≤ 9223372036854775807
                                          · rw [if_pos c65] at H
                                            have c65b0 := eq_true c65
                                            have c65b1 : decide ((((((x11_2 ++ (⟨#[32]⟩ : ByteArray)) ++ x8_1) ++ ((⟨#[110]⟩ : ByteArray) ++ (strOfNums y168))) ++ x8_1) ++ (⟨#[61]⟩ : ByteArray)).size + x8_1.size ≤ 9223372036854775807) = true := decide_eq_true c65
                                            try have c65b2 : (9223372036854775807 < (((((x11_2 ++ (⟨#[32]⟩ : ByteArray)) ++ x8_1) ++ ((⟨#[110]⟩ : ByteArray) ++ (strOfNums y168))) ++ x8_1) ++ (⟨#[61]⟩ : ByteArray)).size + x8_1.size) = False := eq_false (Nat.not_lt.2 c65)
                                            by_cases c66 : ((((((x11_2 ++ (⟨#[32]⟩ : ByteArray)) ++ x8_1) ++ ((⟨#[110]⟩ : ByteArray) ++ (strOfNums y168))) ++ x8_1) ++ (⟨#[61]⟩ : ByteArray)) ++ x8_1).size + 1 ≤ 9223372036854775807
                                            · rw [if_pos c66] at H
                                              have c66b0 := eq_true c66
                                              have c66b1 : decide (((((((x11_2 ++ (⟨#[32]⟩ : ByteArray)) ++ x8_1) ++ ((⟨#[110]⟩ : ByteArray) ++ (strOfNums y168))) ++ x8_1) ++ (⟨#[61]⟩ : ByteArray)) ++ x8_1).size + 1 ≤ 9223372036854775807) = true := decide_eq_true c66
                                              try have c66b2 : (9223372036854775807 < ((((((x11_2 ++ (⟨#[32]⟩ : ByteArray)) ++ x8_1) ++ ((⟨#[110]⟩ : ByteArray) ++ (strOfNums y168))) ++ x8_1) ++ (⟨#[61]⟩ : ByteArray)) ++ x8_1).size + 1) = False := eq_false (Nat.not_lt.2 c66)
                                              have c66z : x11_2.size + 1 + x8_1.size + (1 + (strOfNums y168).size) + x8_1.size + 1 + x8_1.size + 1 ≤ 9223372036854775807 := by have z_ := c66; simp only [ByteArray.size_append] at z_; exact z_
                                              have c66zb2 : (9223372036854775807 < x11_2.size + 1 + x8_1.size + (1 + (strOfNums y168).size) + x8_1.size + 1 + x8_1.size + 1) = False := eq_false (Nat.not_lt.2 c66z)
                                              replace H := Option.bind_eq_some_iff.mp H
                                              obtain ⟨t189, A670, H⟩ := H
                                              replace H : (if (((((((x11_2 ++ (⟨#[32]⟩ : ByteArray)) ++ x8_1) ++ ((⟨#[110]⟩ : ByteArray) ++ (strOfNums y168))) ++ x8_1) ++ (⟨#[61]⟩ : ByteArray)) ++ x8_1) ++ (⟨#[34]⟩ : ByteArray)).size + t189.size ≤ 9223372036854775807 then (if ((((((((x11_2 ++ (⟨#[32]⟩ : ByteArray)) ++ x8_1) ++ ((⟨#[110]⟩ : ByteArray) ++ (strOfNums y168))) ++ x8_1) ++ (⟨#[61]⟩ : ByteArray)) ++ x8_1) ++ (⟨#[34]⟩ : ByteArray)) ++ t189).size + 1 ≤ 9223372036854775807 then (if x12_2.length < 8796093022208 then (if x13_2.length < 8796093022208 then (topiarylaw12_LexerWrites.l1 kj22 l0 l1 t166 x8_1 (((((((((x11_2 ++ (⟨#[32]⟩ : ByteArray)) ++ x8_1) ++ ((⟨#[110]⟩ : ByteArray) ++ (strOfNums y168))) ++ x8_1) ++ (⟨#[61]⟩ : ByteArray)) ++ x8_1) ++ (⟨#[34]⟩ : ByteArray)) ++ t189) ++ (⟨#[34]⟩ : ByteArray)) (x12_2 ++ [x16_22]) (x13_2 ++ [((⟨#[110]⟩ : ByteArray) ++ (strOfNums y168))]) (wrap64 (x14_2 + 1)) a2_0 a2_1) else (none)) else (none)) else (none)) else (none)) = some r := H
                                              have A67 := Aside0.mk A670
                                              clear A670
                                              by_cases c68 : (((((((x11_2 ++ (⟨#[32]⟩ : ByteArray)) ++ x8_1) ++ ((⟨#[110]⟩ : ByteArray) ++ (strOfNums y168))) ++ x8_1) ++ (⟨#[61]⟩ : ByteArray)) ++ x8_1) ++ (⟨#[34]⟩ : ByteArray)).size + t189.size ≤ 9223372036854775807
                                              · rw [if_pos c68] at H
                                                have c68b0 := eq_true c68
                                                have c68b1 : decide ((((((((x11_2 ++ (⟨#[32]⟩ : ByteArray)) ++ x8_1) ++ ((⟨#[110]⟩ : ByteArray) ++ (strOfNums y168))) ++ x8_1) ++ (⟨#[61]⟩ : ByteArray)) ++ x8_1) ++ (⟨#[34]⟩ : ByteArray)).size + t189.size ≤ 9223372036854775807) = true := decide_eq_true c68
                                                try have c68b2 : (9223372036854775807 < (((((((x11_2 ++ (⟨#[32]⟩ : ByteArray)) ++ x8_1) ++ ((⟨#[110]⟩ : ByteArray) ++ (strOfNums y168))) ++ x8_1) ++ (⟨#[61]⟩ : ByteArray)) ++ x8_1) ++ (⟨#[34]⟩ : ByteArray)).size + t189.size) = False := eq_false (Nat.not_lt.2 c68)
                                                by_cases c69 : ((((((((x11_2 ++ (⟨#[32]⟩ : ByteArray)) ++ x8_1) ++ ((⟨#[110]⟩ : ByteArray) ++ (strOfNums y168))) ++ x8_1) ++ (⟨#[61]⟩ : ByteArray)) ++ x8_1) ++ (⟨#[34]⟩ : ByteArray)) ++ t189).size + 1 ≤ 9223372036854775807
                                                · rw [if_pos c69] at H
                                                  have c69b0 := eq_true c69
                                                  have c69b1 : decide (((((((((x11_2 ++ (⟨#[32]⟩ : ByteArray)) ++ x8_1) ++ ((⟨#[110]⟩ : ByteArray) ++ (strOfNums y168))) ++ x8_1) ++ (⟨#[61]⟩ : ByteArray)) ++ x8_1) ++ (⟨#[34]⟩ : ByteArray)) ++ t189).size + 1 ≤ 9223372036854775807) = true := decide_eq_true c69
                                                  try have c69b2 : (9223372036854775807 < ((((((((x11_2 ++ (⟨#[32]⟩ : ByteArray)) ++ x8_1) ++ ((⟨#[110]⟩ : ByteArray) ++ (strOfNums y168))) ++ x8_1) ++ (⟨#[61]⟩ : ByteArray)) ++ x8_1) ++ (⟨#[34]⟩ : ByteArray)) ++ t189).size + 1) = False := eq_false (Nat.not_lt.2 c69)
                                                  have c69z : x11_2.size + 1 + x8_1.size + (1 + (strOfNums y168).size) + x8_1.size + 1 + x8_1.size + 1 + t189.size + 1 ≤ 9223372036854775807 := by have z_ := c69; simp only [ByteArray.size_append] at z_; exact z_
                                                  have c69zb2 : (9223372036854775807 < x11_2.size + 1 + x8_1.size + (1 + (strOfNums y168).size) + x8_1.size + 1 + x8_1.size + 1 + t189.size + 1) = False := eq_false (Nat.not_lt.2 c69z)
                                                  by_cases c70 : x12_2.length < 8796093022208
                                                  · rw [if_pos c70] at H
                                                    have LMc70 := Aside0.mk c70
                                                    clear c70
                                                    obtain ⟨y190, hy190⟩ : ∃ y_ : List ByteArray, y_ = (x12_2 ++ [x16_22]) := ⟨_, rfl⟩
                                                    replace H : (if x13_2.length < 8796093022208 then (topiarylaw12_LexerWrites.l1 kj22 l0 l1 t166 x8_1 (((((((((x11_2 ++ (⟨#[32]⟩ : ByteArray)) ++ x8_1) ++ ((⟨#[110]⟩ : ByteArray) ++ (strOfNums y168))) ++ x8_1) ++ (⟨#[61]⟩ : ByteArray)) ++ x8_1) ++ (⟨#[34]⟩ : ByteArray)) ++ t189) ++ (⟨#[34]⟩ : ByteArray)) y190 (x13_2 ++ [((⟨#[110]⟩ : ByteArray) ++ (strOfNums y168))]) (wrap64 (x14_2 + 1)) a2_0 a2_1) else (none)) = some r := by first | (rw [hy190]; with_reducible exact H) | (have H2_ := (Option.bind_some _ _).symm.trans H; rw [hy190]; with_reducible exact H2_) | (have H2_ := (Option.bind_some _ _).symm.trans H; with_reducible exact H2_) | with_reducible exact H | (rw [hy190]; exact H) | exact H
                                                    have Ny190 := Aside0.mk hy190
                                                    clear hy190
                                                    by_cases c71 : x13_2.length < 8796093022208
                                                    · rw [if_pos c71] at H
                                                      have LMc71 := Aside0.mk c71
                                                      clear c71
                                                      obtain ⟨y193, hy193⟩ : ∃ y_ : List ByteArray, y_ = (x13_2 ++ [((⟨#[110]⟩ : ByteArray) ++ (strOfNums y168))]) := ⟨_, rfl⟩
                                                      replace H : (topiarylaw12_LexerWrites.l1 kj22 l0 l1 t166 x8_1 (((((((((x11_2 ++ (⟨#[32]⟩ : ByteArray)) ++ x8_1) ++ ((⟨#[110]⟩ : ByteArray) ++ (strOfNums y168))) ++ x8_1) ++ (⟨#[61]⟩ : ByteArray)) ++ x8_1) ++ (⟨#[34]⟩ : ByteArray)) ++ t189) ++ (⟨#[34]⟩ : ByteArray)) y190 y193 (wrap64 (x14_2 + 1)) a2_0 a2_1) = some r := by first | (rw [hy193]; with_reducible exact H) | (have H2_ := (Option.bind_some _ _).symm.trans H; rw [hy193]; with_reducible exact H2_) | (have H2_ := (Option.bind_some _ _).symm.trans H; with_reducible exact H2_) | with_reducible exact H | (rw [hy193]; exact H) | exact H
                                                      have Ny193 := Aside0.mk hy193
                                                      clear hy193
                                                      have H' := Aside0.mk H
                                                      clear H
                                                      go_wp2_with (first | (go_at_call 11; (with_reducible refine (topiaryref11_Escape.calls kj22 x16_22 t189 _ A67.out).mono ?_); rintro e w' ⟨rfl, ⟨nd, rfl⟩⟩; (try first | exact ⟨rfl, _, World.drewN_drewN _ _ _⟩ | exact ⟨rfl, _, Eq.trans (World.drewN_drewN _ _ _) (congrArg (World.drewN _) (Nat.add_assoc _ _ _))⟩)) | ((with_reducible refine gate_builtin (b := .append) (xs := #[.tmp 93, .tmp 95]) rfl ?_); (try (refine gate_guard (by rfl) ?_; dsimp only)); at_builtin; refine Kd.R_append Kd.string (w0 := w) w.heap.size rfl (.tmp 93) (.tmp 95) 33 9 (.string ⟨#[]⟩) 16 rfl Try.underlying33 info9 rfl (by decide) (by omega) u12 x12_2 x16_22 [.string x16_22] (fun k_ => some k_ ≠ (u13 : Value).ownBlock) (fun _ => False) rfl rfl ?aP (fun _ hk => hk.elim) ?aF ?aO ?aB ?aS ?aL ?_; (case aP => exact rfl); (case aB => exact (by repeat (first | (with_reducible first | exact HB.out | apply below_alloc | apply pw_below_drewN | apply below_drew1 | refine below_set ?_ GE165.out) | exact HB.out))); (case aF => exact (fun k_ hk => Kd.fresh' (Kd.R_lt (by (with_reducible repeat (first | apply Kd.R_alloc | apply Kd.R_drewN | apply Kd.R_drew)); exact HO_13.out)) k_ hk)); (case aO => exact (by (with_reducible repeat (first | apply Kd.R_alloc | apply Kd.R_drewN | apply Kd.R_drew)); exact HO_12.out)); (case aS => exact (below_size (by repeat (first | (with_reducible first | exact HB.out | apply below_alloc | apply pw_below_drewN | apply below_drew1 | refine below_set ?_ GE165.out) | exact HB.out)))); (case aL => have := LMc70.out; omega); intro v191 w72 ho hb hg hat; rw [← Ny190.out] at ho; have n0_ := Aside0.mk (Kd.R_after (ok := (fun _ => True)) (by (with_reducible repeat (first | apply Kd.R_alloc | apply Kd.R_drewN | apply Kd.R_drew)); exact Kd.R_mono HO_13.out (fun _ hk => ⟨trivial, hk⟩)) hg hat); have n1_ := Aside0.mk (blk_grown (g := gb165) (o := .cells #[.int .i64 a2_0, .int .i64 a2_1] 34 (0, 0)) (by (with_reducible repeat (first | refine blk_drewN ?_ _ | refine blk_drew ?_ | refine blk_alloc ?_ _)); exact BK165.out) hg (Kd.R_ne HO_12.out BK165.out (by decide))); have n2_ := Aside0.mk (hb); have n3_ := Aside0.mk (ho); clear HO_13; clear BK165; clear HB; clear HO_12; have HO_13 := n0_; have BK165 := n1_; have HB := n2_; have HO192 := n3_; clear n0_ n1_ n2_ n3_; clear ho hb hg hat) | ((with_reducible refine gate_builtin (b := .append) (xs := #[.tmp 97, .tmp 99]) rfl ?_); (try (refine gate_guard (by rfl) ?_; dsimp only)); at_builtin; refine Kd.R_append Kd.string (w0 := w) w.heap.size rfl (.tmp 97) (.tmp 99) 33 9 (.string ⟨#[]⟩) 16 rfl Try.underlying33 info9 rfl (by decide) (by omega) u13 x13_2 ((⟨#[110]⟩ : ByteArray) ++ (strOfNums y168)) [.string ((⟨#[110]⟩ : ByteArray) ++ (strOfNums y168))] (fun k_ => some k_ ≠ (v191 : Value).ownBlock) (fun _ => False) rfl rfl ?aP (fun _ hk => hk.elim) ?aF ?aO ?aB ?aS ?aL ?_; (case aP => exact rfl); (case aB => exact (by repeat (first | (with_reducible first | exact HB.out | apply below_alloc | apply pw_below_drewN | apply below_drew1 | refine below_set ?_ GE165.out) | exact HB.out))); (case aF => exact (fun k_ hk => Kd.fresh' (Kd.R_lt (by (with_reducible repeat (first | apply Kd.R_alloc | apply Kd.R_drewN | apply Kd.R_drew)); exact HO192.out)) k_ hk)); (case aO => exact (by (with_reducible repeat (first | apply Kd.R_alloc | apply Kd.R_drewN | apply Kd.R_drew)); exact Kd.R_mono HO_13.out (fun _ hk => hk.2))); (case aS => exact (below_size (by repeat (first | (with_reducible first | exact HB.out | apply below_alloc | apply pw_below_drewN | apply below_drew1 | refine below_set ?_ GE165.out) | exact HB.out)))); (case aL => have := LMc71.out; omega); intro v194 w73 ho hb hg hat; rw [← Ny193.out] at ho; have n0_ := Aside0.mk (blk_grown (g := gb165) (o := .cells #[.int .i64 a2_0, .int .i64 a2_1] 34 (0, 0)) (by (with_reducible repeat (first | refine blk_drewN ?_ _ | refine blk_drew ?_ | refine blk_alloc ?_ _)); exact BK165.out) hg (Kd.R_ne HO_13.out BK165.out (by decide))); have n1_ := Aside0.mk (Kd.R_after (ok := (fun _ => True)) (by (with_reducible repeat (first | apply Kd.R_alloc | apply Kd.R_drewN | apply Kd.R_drew)); exact Kd.R_mono HO192.out (fun _ hk => ⟨trivial, hk⟩)) hg hat); have n2_ := Aside0.mk (hb); have n3_ := Aside0.mk (ho); clear BK165; clear HO192; clear HB; clear HO_13; have BK165 := n0_; have HO192 := n1_; have HB := n2_; have HO195 := n3_; clear n0_ n1_ n2_ n3_; clear ho hb hg hat))
                                                      repeat (go_quiet (first | (go_at_call 11; (with_reducible refine (topiaryref11_Escape.calls kj22 x16_22 t189 _ A67.out).mono ?_); rintro e w' ⟨rfl, ⟨nd, rfl⟩⟩; (try first | exact ⟨rfl, _, World.drewN_drewN _ _ _⟩ | exact ⟨rfl, _, Eq.trans (World.drewN_drewN _ _ _) (congrArg (World.drewN _) (Nat.add_assoc _ _ _))⟩)) | ((with_reducible refine gate_builtin (b := .append) (xs := #[.tmp 93, .tmp 95]) rfl ?_); (try (refine gate_guard (by rfl) ?_; dsimp only)); at_builtin; refine Kd.R_append Kd.string (w0 := w) w.heap.size rfl (.tmp 93) (.tmp 95) 33 9 (.string ⟨#[]⟩) 16 rfl Try.underlying33 info9 rfl (by decide) (by omega) u12 x12_2 x16_22 [.string x16_22] (fun k_ => some k_ ≠ (u13 : Value).ownBlock) (fun _ => False) rfl rfl ?aP (fun _ hk => hk.elim) ?aF ?aO ?aB ?aS ?aL ?_; (case aP => exact rfl); (case aB => exact (by repeat (first | (with_reducible first | exact HB.out | apply below_alloc | apply pw_below_drewN | apply below_drew1 | refine below_set ?_ GE165.out) | exact HB.out))); (case aF => exact (fun k_ hk => Kd.fresh' (Kd.R_lt (by (with_reducible repeat (first | apply Kd.R_alloc | apply Kd.R_drewN | apply Kd.R_drew)); exact HO_13.out)) k_ hk)); (case aO => exact (by (with_reducible repeat (first | apply Kd.R_alloc | apply Kd.R_drewN | apply Kd.R_drew)); exact HO_12.out)); (case aS => exact (below_size (by repeat (first | (with_reducible first | exact HB.out | apply below_alloc | apply pw_below_drewN | apply below_drew1 | refine below_set ?_ GE165.out) | exact HB.out)))); (case aL => have := LMc70.out; omega); intro v191 w72 ho hb hg hat; rw [← Ny190.out] at ho; have n0_ := Aside0.mk (Kd.R_after (ok := (fun _ => True)) (by (with_reducible repeat (first | apply Kd.R_alloc | apply Kd.R_drewN | apply Kd.R_drew)); exact Kd.R_mono HO_13.out (fun _ hk => ⟨trivial, hk⟩)) hg hat); have n1_ := Aside0.mk (blk_grown (g := gb165) (o := .cells #[.int .i64 a2_0, .int .i64 a2_1] 34 (0, 0)) (by (with_reducible repeat (first | refine blk_drewN ?_ _ | refine blk_drew ?_ | refine blk_alloc ?_ _)); exact BK165.out) hg (Kd.R_ne HO_12.out BK165.out (by decide))); have n2_ := Aside0.mk (hb); have n3_ := Aside0.mk (ho); clear HO_13; clear BK165; clear HB; clear HO_12; have HO_13 := n0_; have BK165 := n1_; have HB := n2_; have HO192 := n3_; clear n0_ n1_ n2_ n3_; clear ho hb hg hat) | ((with_reducible refine gate_builtin (b := .append) (xs := #[.tmp 97, .tmp 99]) rfl ?_); (try (refine gate_guard (by rfl) ?_; dsimp only)); at_builtin; refine Kd.R_append Kd.string (w0 := w) w.heap.size rfl (.tmp 97) (.tmp 99) 33 9 (.string ⟨#[]⟩) 16 rfl Try.underlying33 info9 rfl (by decide) (by omega) u13 x13_2 ((⟨#[110]⟩ : ByteArray) ++ (strOfNums y168)) [.string ((⟨#[110]⟩ : ByteArray) ++ (strOfNums y168))] (fun k_ => some k_ ≠ (v191 : Value).ownBlock) (fun _ => False) rfl rfl ?aP (fun _ hk => hk.elim) ?aF ?aO ?aB ?aS ?aL ?_; (case aP => exact rfl); (case aB => exact (by repeat (first | (with_reducible first | exact HB.out | apply below_alloc | apply pw_below_drewN | apply below_drew1 | refine below_set ?_ GE165.out) | exact HB.out))); (case aF => exact (fun k_ hk => Kd.fresh' (Kd.R_lt (by (with_reducible repeat (first | apply Kd.R_alloc | apply Kd.R_drewN | apply Kd.R_drew)); exact HO192.out)) k_ hk)); (case aO => exact (by (with_reducible repeat (first | apply Kd.R_alloc | apply Kd.R_drewN | apply Kd.R_drew)); exact Kd.R_mono HO_13.out (fun _ hk => hk.2))); (case aS => exact (below_size (by repeat (first | (with_reducible first | exact HB.out | apply below_alloc | apply pw_below_drewN | apply below_drew1 | refine below_set ?_ GE165.out) | exact HB.out)))); (case aL => have := LMc71.out; omega); intro v194 w73 ho hb hg hat; rw [← Ny193.out] at ho; have n0_ := Aside0.mk (blk_grown (g := gb165) (o := .cells #[.int .i64 a2_0, .int .i64 a2_1] 34 (0, 0)) (by (with_reducible repeat (first | refine blk_drewN ?_ _ | refine blk_drew ?_ | refine blk_alloc ?_ _)); exact BK165.out) hg (Kd.R_ne HO_13.out BK165.out (by decide))); have n1_ := Aside0.mk (Kd.R_after (ok := (fun _ => True)) (by (with_reducible repeat (first | apply Kd.R_alloc | apply Kd.R_drewN | apply Kd.R_drew)); exact Kd.R_mono HO192.out (fun _ hk => ⟨trivial, hk⟩)) hg hat); have n2_ := Aside0.mk (hb); have n3_ := Aside0.mk (ho); clear BK165; clear HO192; clear HB; clear HO_13; have BK165 := n0_; have HO192 := n1_; have HB := n2_; have HO195 := n3_; clear n0_ n1_ n2_ n3_; clear ho hb hg hat)); try go_wp2_with (first | (go_at_call 11; (with_reducible refine (topiaryref11_Escape.calls kj22 x16_22 t189 _ A67.out).mono ?_); rintro e w' ⟨rfl, ⟨nd, rfl⟩⟩; (try first | exact ⟨rfl, _, World.drewN_drewN _ _ _⟩ | exact ⟨rfl, _, Eq.trans (World.drewN_drewN _ _ _) (congrArg (World.drewN _) (Nat.add_assoc _ _ _))⟩)) | ((with_reducible refine gate_builtin (b := .append) (xs := #[.tmp 93, .tmp 95]) rfl ?_); (try (refine gate_guard (by rfl) ?_; dsimp only)); at_builtin; refine Kd.R_append Kd.string (w0 := w) w.heap.size rfl (.tmp 93) (.tmp 95) 33 9 (.string ⟨#[]⟩) 16 rfl Try.underlying33 info9 rfl (by decide) (by omega) u12 x12_2 x16_22 [.string x16_22] (fun k_ => some k_ ≠ (u13 : Value).ownBlock) (fun _ => False) rfl rfl ?aP (fun _ hk => hk.elim) ?aF ?aO ?aB ?aS ?aL ?_; (case aP => exact rfl); (case aB => exact (by repeat (first | (with_reducible first | exact HB.out | apply below_alloc | apply pw_below_drewN | apply below_drew1 | refine below_set ?_ GE165.out) | exact HB.out))); (case aF => exact (fun k_ hk => Kd.fresh' (Kd.R_lt (by (with_reducible repeat (first | apply Kd.R_alloc | apply Kd.R_drewN | apply Kd.R_drew)); exact HO_13.out)) k_ hk)); (case aO => exact (by (with_reducible repeat (first | apply Kd.R_alloc | apply Kd.R_drewN | apply Kd.R_drew)); exact HO_12.out)); (case aS => exact (below_size (by repeat (first | (with_reducible first | exact HB.out | apply below_alloc | apply pw_below_drewN | apply below_drew1 | refine below_set ?_ GE165.out) | exact HB.out)))); (case aL => have := LMc70.out; omega); intro v191 w72 ho hb hg hat; rw [← Ny190.out] at ho; have n0_ := Aside0.mk (Kd.R_after (ok := (fun _ => True)) (by (with_reducible repeat (first | apply Kd.R_alloc | apply Kd.R_drewN | apply Kd.R_drew)); exact Kd.R_mono HO_13.out (fun _ hk => ⟨trivial, hk⟩)) hg hat); have n1_ := Aside0.mk (blk_grown (g := gb165) (o := .cells #[.int .i64 a2_0, .int .i64 a2_1] 34 (0, 0)) (by (with_reducible repeat (first | refine blk_drewN ?_ _ | refine blk_drew ?_ | refine blk_alloc ?_ _)); exact BK165.out) hg (Kd.R_ne HO_12.out BK165.out (by decide))); have n2_ := Aside0.mk (hb); have n3_ := Aside0.mk (ho); clear HO_13; clear BK165; clear HB; clear HO_12; have HO_13 := n0_; have BK165 := n1_; have HB := n2_; have HO192 := n3_; clear n0_ n1_ n2_ n3_; clear ho hb hg hat) | ((with_reducible refine gate_builtin (b := .append) (xs := #[.tmp 97, .tmp 99]) rfl ?_); (try (refine gate_guard (by rfl) ?_; dsimp only)); at_builtin; refine Kd.R_append Kd.string (w0 := w) w.heap.size rfl (.tmp 97) (.tmp 99) 33 9 (.string ⟨#[]⟩) 16 rfl Try.underlying33 info9 rfl (by decide) (by omega) u13 x13_2 ((⟨#[110]⟩ : ByteArray) ++ (strOfNums y168)) [.string ((⟨#[110]⟩ : ByteArray) ++ (strOfNums y168))] (fun k_ => some k_ ≠ (v191 : Value).ownBlock) (fun _ => False) rfl rfl ?aP (fun _ hk => hk.elim) ?aF ?aO ?aB ?aS ?aL ?_; (case aP => exact rfl); (case aB => exact (by repeat (first | (with_reducible first | exact HB.out | apply below_alloc | apply pw_below_drewN | apply below_drew1 | refine below_set ?_ GE165.out) | exact HB.out))); (case aF => exact (fun k_ hk => Kd.fresh' (Kd.R_lt (by (with_reducible repeat (first | apply Kd.R_alloc | apply Kd.R_drewN | apply Kd.R_drew)); exact HO192.out)) k_ hk)); (case aO => exact (by (with_reducible repeat (first | apply Kd.R_alloc | apply Kd.R_drewN | apply Kd.R_drew)); exact Kd.R_mono HO_13.out (fun _ hk => hk.2))); (case aS => exact (below_size (by repeat (first | (with_reducible first | exact HB.out | apply below_alloc | apply pw_below_drewN | apply below_drew1 | refine below_set ?_ GE165.out) | exact HB.out)))); (case aL => have := LMc71.out; omega); intro v194 w73 ho hb hg hat; rw [← Ny193.out] at ho; have n0_ := Aside0.mk (blk_grown (g := gb165) (o := .cells #[.int .i64 a2_0, .int .i64 a2_1] 34 (0, 0)) (by (with_reducible repeat (first | refine blk_drewN ?_ _ | refine blk_drew ?_ | refine blk_alloc ?_ _)); exact BK165.out) hg (Kd.R_ne HO_13.out BK165.out (by decide))); have n1_ := Aside0.mk (Kd.R_after (ok := (fun _ => True)) (by (with_reducible repeat (first | apply Kd.R_alloc | apply Kd.R_drewN | apply Kd.R_drew)); exact Kd.R_mono HO192.out (fun _ hk => ⟨trivial, hk⟩)) hg hat); have n2_ := Aside0.mk (hb); have n3_ := Aside0.mk (ho); clear BK165; clear HO192; clear HB; clear HO_13; have BK165 := n0_; have HO192 := n1_; have HB := n2_; have HO195 := n3_; clear n0_ n1_ n2_ n3_; clear ho hb hg hat)))
                                                      go_roundg kj22
                                                      case measure => have := HK1.out; have := HK2.out; have := HJ12.out; have := HJ22.out; omega
                                                      case rel => exact ⟨(((((((((x11_2 ++ (⟨#[32]⟩ : ByteArray)) ++ x8_1) ++ ((⟨#[110]⟩ : ByteArray) ++ (strOfNums y168))) ++ x8_1) ++ (⟨#[61]⟩ : ByteArray)) ++ x8_1) ++ (⟨#[34]⟩ : ByteArray)) ++ t189) ++ (⟨#[34]⟩ : ByteArray)), (y190), (y193), (wrap64 (x14_2 + 1)), (by first | rfl | (simp; done) | (simp [*]; done)), (by first | rfl | (simp; done) | (simp [*]; done)), H', ⟨by have := HK1.out; have := HK2.out; have := HJ12.out; have := HJ22.out; omega⟩, ⟨by (with_reducible repeat (first | apply Kd.R_alloc | apply Kd.R_drewN | apply Kd.R_drew)); exact Kd.R_mono HO192.out (fun _ hk => hk.2)⟩, ⟨by (with_reducible repeat (first | apply Kd.R_alloc | apply Kd.R_drewN | apply Kd.R_drew)); exact HO195.out⟩, ⟨by (with_reducible repeat (first | refine blk_drewN ?_ _ | refine blk_drew ?_ | refine blk_alloc ?_ _)); exact BK165.out⟩, ⟨by repeat (first | (with_reducible first | exact HB.out | apply below_alloc | apply pw_below_drewN | apply below_drew1 | refine below_set ?_ GE165.out) | exact HB.out)⟩⟩
                                                    · rw [if_neg c71] at H
                                                      exact absurd H (by simp)
                                                  · rw [if_neg c70] at H
                                                    exact absurd H (by simp)
                                                · rw [if_neg c69] at H
                                                  exact absurd H (by simp)
                                              · rw [if_neg c68] at H
                                                exact absurd H (by simp)
                                            · rw [if_neg c66] at H
                                              exact absurd H (by simp)
                                          · rw [if_neg c65] at H
                                            exact absurd H (by simp)
                                        · rw [if_neg c64] at H
                                          exact absurd H (by simp)
                                      · rw [if_neg c63] at H
                                        exact absurd H (by simp)
                                    · rw [if_neg c62] at H
                                      exact absurd H (by simp)
                                  · rw [if_neg c61] at H
                                    exact absurd H (by simp)
                                · rw [if_neg c60] at H
                                  exact absurd H (by simp)
                        · rw [if_neg c20] at H
                          exact absurd H (by simp)
                      · rw [if_neg c19] at H
                        exact absurd H (by simp)
                    · rw [if_neg c18] at H
                      exact absurd H (by simp)
                  · rw [if_neg c17] at H
                    exact absurd H (by simp)
                · replace c16 := Bool.eq_false_iff.mpr c16
                  subst c16
                  have H1 : (if x11_2.size + x8_1.size ≤ 9223372036854775807 then (if (Int.tmod a2_1 2) = 0 then (if (x11_2 ++ x8_1).size + 1 ≤ 9223372036854775807 then (topiarylaw12_LexerWrites.j4 kj12 t166 ((x11_2 ++ x8_1) ++ (⟨#[47]⟩ : ByteArray)) x12_2 x13_2 a2_0 a2_1) else (none)) else (topiarylaw12_LexerWrites.j4 kj12 t166 (x11_2 ++ x8_1) x12_2 x13_2 a2_0 a2_1)) else (none)) = some r := by rw [if_neg (show ¬ (false = true) by decide)] at H; exact H
                  clear H
                  have H := H1
                  clear H1
                  by_cases c74 : x11_2.size + x8_1.size ≤ 9223372036854775807
                  · rw [if_pos c74] at H
                    have c74b0 := eq_true c74
                    have c74b1 : decide (x11_2.size + x8_1.size ≤ 9223372036854775807) = true := decide_eq_true c74
                    try have c74b2 : (9223372036854775807 < x11_2.size + x8_1.size) = False := eq_false (Nat.not_lt.2 c74)
                    have HC75 := Aside0.mk H
                    clear H
                    have hcz76_0 : wc.cell? ⟨gb165, 0, none⟩ = some (.int .i64 a2_0) := (blk_cell BK165.out 0).trans rfl
                    have hcz76_1 : wc.cell? ⟨gb165, 1, none⟩ = some (.int .i64 a2_1) := (blk_cell BK165.out 1).trans rfl
                    have hfz76_0 := blk_frozen BK165.out 0
                    have hfz76_1 := blk_frozen BK165.out 1
                    go_upto_if 107 with (fail)
                    repeat (go_quiet (fail); go_upto_if 107 with (fail))
                    go_cut [11] (fun v11 wc => ∃ (kq : Nat) (x11_74 : ByteArray), v11 = .string x11_74 ∧ Aside0 (topiarylaw12_LexerWrites.j4 kq t166 x11_74 x12_2 x13_2 a2_0 a2_1 = some r) ∧ Aside0 (kq ≤ kj12) ∧ Aside0 (Kd.R Kd.string 9 wc w.heap.size (fun k_ => some k_ ≠ (u13 : Value).ownBlock) u12 x12_2) ∧ Aside0 (Kd.R Kd.string 9 wc w.heap.size (fun k_ => some k_ ≠ (u12 : Value).ownBlock) u13 x13_2) ∧ Aside0 (wc.heap[gb165]? = some (.cells #[.int .i64 a2_0, .int .i64 a2_1] 34 (0, 0))) ∧ Aside0 (Below w.heap.size w wc))
                    case first =>
                      have H := HC75.out
                      clear HC75
                      by_cases c77 : (Int.tmod a2_1 2) = 0
                      · rw [if_pos c77] at H
                        have c77b0 : ((Int.tmod a2_1 2) == 0) = true := beq_iff_eq.mpr c77
                        have c77b1 : ((Int.tmod a2_1 2) != 0) = false := bne_eq_false_iff_eq.mpr c77
                        clear c77
                        (first | rw [c77b0] | (simp only [i64_w, i32_w]; rw [c77b0]) | skip)
                        by_cases c78 : (x11_2 ++ x8_1).size + 1 ≤ 9223372036854775807
                        · rw [if_pos c78] at H
                          have c78b0 := eq_true c78
                          have c78b1 : decide ((x11_2 ++ x8_1).size + 1 ≤ 9223372036854775807) = true := decide_eq_true c78
                          try have c78b2 : (9223372036854775807 < (x11_2 ++ x8_1).size + 1) = False := eq_false (Nat.not_lt.2 c78)
                          have c78z : x11_2.size + x8_1.size + 1 ≤ 9223372036854775807 := by have z_ := c78; simp only [ByteArray.size_append] at z_; exact z_
                          have c78zb2 : (9223372036854775807 < x11_2.size + x8_1.size + 1) = False := eq_false (Nat.not_lt.2 c78z)
                          have H' := Aside0.mk H
                          clear H
                          go_wp2
                          repeat (go_quiet (fail); try go_wp2)
                          go_meet
                          case rel => exact ⟨_, ((x11_2 ++ x8_1) ++ (⟨#[47]⟩ : ByteArray)), (by first | rfl | (simp; done) | (simp [*]; done)), H', ⟨by have := HK1.out; have := HK2.out; have := HJ12.out; first | omega | exact Nat.le_refl _⟩, ⟨by (with_reducible repeat (first | apply Kd.R_alloc | apply Kd.R_drewN | apply Kd.R_drew)); exact HO_12.out⟩, ⟨by (with_reducible repeat (first | apply Kd.R_alloc | apply Kd.R_drewN | apply Kd.R_drew)); exact HO_13.out⟩, ⟨by (with_reducible repeat (first | refine blk_drewN ?_ _ | refine blk_drew ?_ | refine blk_alloc ?_ _)); exact BK165.out⟩, ⟨by repeat (first | (with_reducible first | exact HB.out | apply below_alloc | apply pw_below_drewN | apply below_drew1 | refine below_set ?_ GE165.out) | exact HB.out)⟩⟩
                        · rw [if_neg c78] at H
                          exact absurd H (by simp)
                      · rw [if_neg c77] at H
                        have c77b0 : ((Int.tmod a2_1 2) == 0) = false := beq_eq_false_iff_ne.mpr c77
                        have c77b1 : ((Int.tmod a2_1 2) != 0) = true := bne_iff_ne.mpr c77
                        (first | rw [c77b0] | (simp only [i64_w, i32_w]; rw [c77b0]) | skip)
                        have H' := Aside0.mk H
                        clear H
                        go_wp2
                        repeat (go_quiet (fail); try go_wp2)
                        go_meet
                        case rel => exact ⟨_, (x11_2 ++ x8_1), (by first | rfl | (simp; done) | (simp [*]; done)), H', ⟨by have := HK1.out; have := HK2.out; have := HJ12.out; first | omega | exact Nat.le_refl _⟩, ⟨by (with_reducible repeat (first | apply Kd.R_alloc | apply Kd.R_drewN | apply Kd.R_drew)); exact HO_12.out⟩, ⟨by (with_reducible repeat (first | apply Kd.R_alloc | apply Kd.R_drewN | apply Kd.R_drew)); exact HO_13.out⟩, ⟨by (with_reducible repeat (first | refine blk_drewN ?_ _ | refine blk_drew ?_ | refine blk_alloc ?_ _)); exact BK165.out⟩, ⟨by repeat (first | (with_reducible first | exact HB.out | apply below_alloc | apply pw_below_drewN | apply below_drew1 | refine below_set ?_ GE165.out) | exact HB.out)⟩⟩
                    case rest =>
                      clear HC75
                      try clear c1
                      try clear p1
                      try clear q1
                      try clear hx1
                      try clear c2
                      try clear p2
                      try clear hcv2
                      try clear c3
                      try clear c4
                      try clear c5
                      try clear c6
                      try clear p6
                      try clear c7
                      try clear c8
                      try clear c8b0
                      try clear c9
                      try clear c9b0
                      try clear c9b1
                      try clear c10
                      try clear c10b0
                      try clear c10b1
                      try clear c11
                      try clear c11b0
                      try clear c11b1
                      try clear c12
                      try clear c12b0
                      try clear c12b1
                      try clear c12b2
                      try clear c14
                      try clear c14b0
                      try clear c15
                      try clear c15b0
                      try clear c16
                      try clear p16
                      try clear q16
                      try clear hx16
                      try clear c17
                      try clear c17b0
                      try clear p17
                      try clear q17
                      try clear hx17
                      try clear c18
                      try clear c18b0
                      try clear c19
                      try clear c19b0
                      try clear c19b1
                      try clear c19b2
                      try clear c20
                      try clear c20b0
                      try clear hcv26
                      try clear c28
                      try clear c29
                      try clear c29b0
                      try clear c29b1
                      try clear c31
                      try clear c32
                      try clear c32b0
                      try clear c32b1
                      try clear c32b2
                      try clear c33
                      try clear c33b0
                      try clear c33b1
                      try clear c33b2
                      try clear c34
                      try clear c34b0
                      try clear c34b1
                      try clear c34b2
                      try clear c35
                      try clear c35b0
                      try clear c35b1
                      try clear c35b2
                      try clear c36
                      try clear c36b0
                      try clear c36b1
                      try clear c36b2
                      try clear c37
                      try clear c37b0
                      try clear c37b1
                      try clear c37b2
                      try clear c38
                      try clear c38b0
                      try clear c38b1
                      try clear c38b2
                      try clear c40
                      try clear c40b0
                      try clear c40b1
                      try clear c40b2
                      try clear c41
                      try clear c41b0
                      try clear c41b1
                      try clear c41b2
                      try clear c42
                      try clear c43
                      try clear c46
                      try clear c46b0
                      try clear c46b1
                      try clear c46b2
                      try clear c47
                      try clear c47b0
                      try clear c47b1
                      try clear c47b2
                      try clear c48
                      try clear c48b0
                      try clear c48b1
                      try clear c48b2
                      try clear c49
                      try clear c49b0
                      try clear c49b1
                      try clear c49b2
                      try clear c50
                      try clear c50b0
                      try clear c50b1
                      try clear c50b2
                      try clear c51
                      try clear c51b0
                      try clear c51b1
                      try clear c51b2
                      try clear c52
                      try clear c52b0
                      try clear c52b1
                      try clear c52b2
                      try clear c54
                      try clear c54b0
                      try clear c54b1
                      try clear c54b2
                      try clear c55
                      try clear c55b0
                      try clear c55b1
                      try clear c55b2
                      try clear c56
                      try clear c57
                      try clear c60
                      try clear c60b0
                      try clear c60b1
                      try clear c60b2
                      try clear c61
                      try clear c61b0
                      try clear c61b1
                      try clear c61b2
                      try clear c62
                      try clear c62b0
                      try clear c62b1
                      try clear c62b2
                      try clear c63
                      try clear c63b0
                      try clear c63b1
                      try clear c63b2
                      try clear c64
                      try clear c64b0
                      try clear c64b1
                      try clear c64b2
                      try clear p64
                      try clear c65
                      try clear c65b0
                      try clear c65b1
                      try clear c65b2
                      try clear c66
                      try clear c66b0
                      try clear c66b1
                      try clear c66b2
                      try clear c68
                      try clear c68b0
                      try clear c68b1
                      try clear c68b2
                      try clear c69
                      try clear c69b0
                      try clear c69b1
                      try clear c69b2
                      try clear c70
                      try clear c71
                      try clear c74
                      try clear c74b0
                      try clear c74b1
                      try clear c74b2
                      try clear c77
                      try clear c77b0
                      try clear c77b1
                      try clear c78
                      try clear c78b0
                      try clear c78b1
                      try clear c78b2
                      try clear hcz76_0
                      try clear hcz76_1
                      try clear hcz7_0
                      try clear hcz7_1
                      try clear hfz76_0
                      try clear hfz76_1
                      try clear hfz7_0
                      try clear hfz7_1
                      try clear hx167_0
                      try clear hx171_0
                      try clear p1
                      try clear p16
                      try clear p167
                      try clear p17
                      try clear p171
                      try clear p2
                      try clear p6
                      try clear q1
                      try clear q16
                      try clear q167
                      try clear q17
                      try clear q171
                      obtain ⟨kq, x11_74, rfl, HA, HJ74, HO_12, HO_13, BK165, HB⟩ := hcut
                      cases kq with
                      | zero => exact absurd HA.out (by simp [topiarylaw12_LexerWrites.j4])
                      | succ kj74 =>
                        have H := HA.out
                        clear HA
                        simp only [topiarylaw12_LexerWrites.j4] at H
                        by_cases c79 : x11_74.size + 1 ≤ 9223372036854775807
                        · rw [if_pos c79] at H
                          have c79b0 := eq_true c79
                          have c79b1 : decide (x11_74.size + 1 ≤ 9223372036854775807) = true := decide_eq_true c79
                          try have c79b2 : (9223372036854775807 < x11_74.size + 1) = False := eq_false (Nat.not_lt.2 c79)
                          replace H := Option.bind_eq_some_iff.mp H
                          obtain ⟨⟨t196, t197⟩, A800, H⟩ := H
                          replace H : (if t197 = 0 then (if (t196.length : Int) = (wrap64 ((x12_2.length : Int) + 2)) then (if 0 < (t196.length : Int) then (topiarylaw12_LexerWrites.j5 kj74 t166 x12_2 x13_2 t196 (((rd_T41 t196 0).f3).toList != ([116] : List UInt8)) a2_0 a2_1) else (none)) else (topiarylaw12_LexerWrites.j5 kj74 t166 x12_2 x13_2 t196 true a2_0 a2_1)) else (topiarylaw12_LexerWrites.j5 kj74 t166 x12_2 x13_2 t196 true a2_0 a2_1)) = some r := H
                          have A80 := Aside0.mk A800
                          clear A800
                          have HC81 := Aside0.mk H
                          clear H
                          go_upto_region 31 with (first | (go_at_call 23; (with_reducible refine (lexer_Lex.calls (x11_74 ++ (⟨#[62]⟩ : ByteArray)) t196 t197 _ (by first | exact hG | exact G.below hG (by repeat (first | (with_reducible first | exact HB.out | apply below_alloc | apply pw_below_drewN | apply below_drew1 | refine below_set ?_ GE165.out) | exact HB.out))) A80.out).mono ?_); rintro e w82 ⟨v198, rfl, ho0, hb⟩; have n0_ := Aside0.mk (Kd.R_below (by (with_reducible repeat (first | apply Kd.R_alloc | apply Kd.R_drewN | apply Kd.R_drew)); exact HO_12.out) hb); have n1_ := Aside0.mk (Kd.R_below (by (with_reducible repeat (first | apply Kd.R_alloc | apply Kd.R_drewN | apply Kd.R_drew)); exact HO_13.out) hb); have n2_ := Aside0.mk (Kd.R_lower ho0 (below_size (by repeat (first | (with_reducible first | exact HB.out | apply below_alloc | apply pw_below_drewN | apply below_drew1 | refine below_set ?_ GE165.out) | exact HB.out)))); have n3_ := Aside0.mk (blk_below (g := gb165) (o := .cells #[.int .i64 a2_0, .int .i64 a2_1] 34 (0, 0)) (by (with_reducible repeat (first | refine blk_drewN ?_ _ | refine blk_drew ?_ | refine blk_alloc ?_ _)); exact BK165.out) hb); have n4_ := Aside0.mk (below_step (by repeat (first | (with_reducible first | exact HB.out | apply below_alloc | apply pw_below_drewN | apply below_drew1 | refine below_set ?_ GE165.out) | exact HB.out)) hb); clear HO_12; clear HO_13; clear BK165; clear HB; have HO_12 := n0_; have HO_13 := n1_; have HO199 := n2_; have BK165 := n3_; have HB := n4_; clear n0_ n1_ n2_ n3_ n4_; (try clear hb); (try clear hb2); (try clear hk); (try clear hi); (try clear ho0)))
                          repeat (go_quiet (first | (go_at_call 23; (with_reducible refine (lexer_Lex.calls (x11_74 ++ (⟨#[62]⟩ : ByteArray)) t196 t197 _ (by first | exact hG | exact G.below hG (by repeat (first | (with_reducible first | exact HB.out | apply below_alloc | apply pw_below_drewN | apply below_drew1 | refine below_set ?_ GE165.out) | exact HB.out))) A80.out).mono ?_); rintro e w82 ⟨v198, rfl, ho0, hb⟩; have n0_ := Aside0.mk (Kd.R_below (by (with_reducible repeat (first | apply Kd.R_alloc | apply Kd.R_drewN | apply Kd.R_drew)); exact HO_12.out) hb); have n1_ := Aside0.mk (Kd.R_below (by (with_reducible repeat (first | apply Kd.R_alloc | apply Kd.R_drewN | apply Kd.R_drew)); exact HO_13.out) hb); have n2_ := Aside0.mk (Kd.R_lower ho0 (below_size (by repeat (first | (with_reducible first | exact HB.out | apply below_alloc | apply pw_below_drewN | apply below_drew1 | refine below_set ?_ GE165.out) | exact HB.out)))); have n3_ := Aside0.mk (blk_below (g := gb165) (o := .cells #[.int .i64 a2_0, .int .i64 a2_1] 34 (0, 0)) (by (with_reducible repeat (first | refine blk_drewN ?_ _ | refine blk_drew ?_ | refine blk_alloc ?_ _)); exact BK165.out) hb); have n4_ := Aside0.mk (below_step (by repeat (first | (with_reducible first | exact HB.out | apply below_alloc | apply pw_below_drewN | apply below_drew1 | refine below_set ?_ GE165.out) | exact HB.out)) hb); clear HO_12; clear HO_13; clear BK165; clear HB; have HO_12 := n0_; have HO_13 := n1_; have HO199 := n2_; have BK165 := n3_; have HB := n4_; clear n0_ n1_ n2_ n3_ n4_; (try clear hb); (try clear hb2); (try clear hk); (try clear hi); (try clear ho0))); go_upto_region 31 with (first | (go_at_call 23; (with_reducible refine (lexer_Lex.calls (x11_74 ++ (⟨#[62]⟩ : ByteArray)) t196 t197 _ (by first | exact hG | exact G.below hG (by repeat (first | (with_reducible first | exact HB.out | apply below_alloc | apply pw_below_drewN | apply below_drew1 | refine below_set ?_ GE165.out) | exact HB.out))) A80.out).mono ?_); rintro e w82 ⟨v198, rfl, ho0, hb⟩; have n0_ := Aside0.mk (Kd.R_below (by (with_reducible repeat (first | apply Kd.R_alloc | apply Kd.R_drewN | apply Kd.R_drew)); exact HO_12.out) hb); have n1_ := Aside0.mk (Kd.R_below (by (with_reducible repeat (first | apply Kd.R_alloc | apply Kd.R_drewN | apply Kd.R_drew)); exact HO_13.out) hb); have n2_ := Aside0.mk (Kd.R_lower ho0 (below_size (by repeat (first | (with_reducible first | exact HB.out | apply below_alloc | apply pw_below_drewN | apply below_drew1 | refine below_set ?_ GE165.out) | exact HB.out)))); have n3_ := Aside0.mk (blk_below (g := gb165) (o := .cells #[.int .i64 a2_0, .int .i64 a2_1] 34 (0, 0)) (by (with_reducible repeat (first | refine blk_drewN ?_ _ | refine blk_drew ?_ | refine blk_alloc ?_ _)); exact BK165.out) hb); have n4_ := Aside0.mk (below_step (by repeat (first | (with_reducible first | exact HB.out | apply below_alloc | apply pw_below_drewN | apply below_drew1 | refine below_set ?_ GE165.out) | exact HB.out)) hb); clear HO_12; clear HO_13; clear BK165; clear HB; have HO_12 := n0_; have HO_13 := n1_; have HO199 := n2_; have BK165 := n3_; have HB := n4_; clear n0_ n1_ n2_ n3_ n4_; (try clear hb); (try clear hb2); (try clear hk); (try clear hi); (try clear ho0))))
                          (try simp only [Act.put, List.setIfInBounds_toArray, List.set_cons_zero, List.set_cons_succ])
                          go_cut [133] (fun v133 wc => ∃ (kq : Nat) (x133_80 : Bool), v133 = .bool x133_80 ∧ Aside0 (topiarylaw12_LexerWrites.j5 kq t166 x12_2 x13_2 t196 x133_80 a2_0 a2_1 = some r) ∧ Aside0 (kq ≤ kj74) ∧ Aside0 (Kd.R Kd.string 9 wc w.heap.size (fun k_ => some k_ ≠ (u13 : Value).ownBlock) u12 x12_2) ∧ Aside0 (Kd.R Kd.string 9 wc w.heap.size (fun k_ => some k_ ≠ (u12 : Value).ownBlock) u13 x13_2) ∧ Aside0 (Kd.R k41 41 wc w.heap.size (fun _ => True) v198 t196) ∧ Aside0 (wc.heap[gb165]? = some (.cells #[.int .i64 a2_0, .int .i64 a2_1] 34 (0, 0))) ∧ Aside0 (Below w.heap.size w wc))
                          case first =>
                            have H := HC81.out
                            clear HC81
                            by_cases c83 : t197 = 0
                            · rw [if_pos c83] at H
                              have c83b0 : (t197 == 0) = true := beq_iff_eq.mpr c83
                              have c83b1 : (t197 != 0) = false := bne_eq_false_iff_eq.mpr c83
                              clear c83
                              (first | rw [c83b0] | (simp only [i64_w, i32_w]; rw [c83b0]) | skip)
                              by_cases c84 : (t196.length : Int) = (wrap64 ((x12_2.length : Int) + 2))
                              · rw [if_pos c84] at H
                                have c84b0 : ((t196.length : Int) == (wrap64 ((x12_2.length : Int) + 2))) = true := beq_iff_eq.mpr c84
                                have c84b1 : ((t196.length : Int) != (wrap64 ((x12_2.length : Int) + 2))) = false := bne_eq_false_iff_eq.mpr c84
                                clear c84
                                by_cases c85 : 0 < (t196.length : Int)
                                · rw [if_pos c85] at H
                                  have c85b0 : decide (0 < (t196.length : Int)) = true := decide_eq_true c85
                                  have c85b1 : decide (0 < t196.length) = true := decide_eq_true (by omega)
                                  clear c85
                                  have H' := Aside0.mk H
                                  clear H
                                  obtain ⟨Ao86, co86, eo86⟩ := Kd.R_slice HO199.out
                                  subst eo86
                                  obtain ⟨Ao87, co87, eo87⟩ := Kd.R_slice HO_12.out
                                  subst eo87
                                  have p200 : 0 ≤ (0 : Int) := (by omega)
                                  have q200 : 0 < (t196.length : Int) := of_decide_eq_true (by first | (with_reducible assumption) | assumption)
                                  obtain ⟨ad200, e200, hx200_0, hx200_1, hx200_2, hx200_3, hx200_4⟩ := at_T41 (Kd.R_reads' HO199.out).2.2 0 p200 q200
                                  cases e200
                                  have qi200 : (0 < t196.length) = True := eq_true (by omega)
                                  (try rw [show ((0 : Int)).toNat = 0 from rfl] at hx200_0)
                                  (try rw [show 0 * 5 = 0 from rfl] at hx200_0)
                                  (try rw [Addr.add_zero'] at hx200_0)
                                  (try rw [show ((0 : Int)).toNat = 0 from rfl] at hx200_1)
                                  (try rw [show 0 * 5 = 0 from rfl] at hx200_1)
                                  (try rw [Addr.add_zero'] at hx200_1)
                                  (try rw [show ((0 : Int)).toNat = 0 from rfl] at hx200_2)
                                  (try rw [show 0 * 5 = 0 from rfl] at hx200_2)
                                  (try rw [Addr.add_zero'] at hx200_2)
                                  (try rw [show ((0 : Int)).toNat = 0 from rfl] at hx200_3)
                                  (try rw [show 0 * 5 = 0 from rfl] at hx200_3)
                                  (try rw [Addr.add_zero'] at hx200_3)
                                  (try rw [show ((0 : Int)).toNat = 0 from rfl] at hx200_4)
                                  (try rw [show 0 * 5 = 0 from rfl] at hx200_4)
                                  (try rw [Addr.add_zero'] at hx200_4)
                                  replace p200 := eq_true p200
                                  replace q200 := eq_true q200
                                  go_wp2
                                  repeat (go_quiet (fail); try go_wp2)
                                  go_meet
                                  case rel => exact ⟨_, ((((rd_T41 t196 0).f3).toList != ([116] : List UInt8))), (by first | rfl | (simp; done) | (simp [*]; done)), H', ⟨by have := HK1.out; have := HK2.out; have := HJ12.out; have := HJ74.out; first | omega | exact Nat.le_refl _⟩, ⟨by (with_reducible repeat (first | apply Kd.R_alloc | apply Kd.R_drewN | apply Kd.R_drew)); exact HO_12.out⟩, ⟨by (with_reducible repeat (first | apply Kd.R_alloc | apply Kd.R_drewN | apply Kd.R_drew)); exact HO_13.out⟩, ⟨by (with_reducible repeat (first | apply Kd.R_alloc | apply Kd.R_drewN | apply Kd.R_drew)); exact HO199.out⟩, ⟨by (with_reducible repeat (first | refine blk_drewN ?_ _ | refine blk_drew ?_ | refine blk_alloc ?_ _)); exact BK165.out⟩, ⟨by repeat (first | (with_reducible first | exact HB.out | apply below_alloc | apply pw_below_drewN | apply below_drew1 | refine below_set ?_ GE165.out) | exact HB.out)⟩⟩
                                · rw [if_neg c85] at H
                                  exact absurd H (by simp)
                              · rw [if_neg c84] at H
                                have c84b0 : ((t196.length : Int) == (wrap64 ((x12_2.length : Int) + 2))) = false := beq_eq_false_iff_ne.mpr c84
                                have c84b1 : ((t196.length : Int) != (wrap64 ((x12_2.length : Int) + 2))) = true := bne_iff_ne.mpr c84
                                have H' := Aside0.mk H
                                clear H
                                obtain ⟨Ao88, co88, eo88⟩ := Kd.R_slice HO199.out
                                subst eo88
                                obtain ⟨Ao89, co89, eo89⟩ := Kd.R_slice HO_12.out
                                subst eo89
                                go_wp2
                                repeat (go_quiet (fail); try go_wp2)
                                go_meet
                                case rel => exact ⟨_, (true), (by first | rfl | (simp; done) | (simp [*]; done)), H', ⟨by have := HK1.out; have := HK2.out; have := HJ12.out; have := HJ74.out; first | omega | exact Nat.le_refl _⟩, ⟨by (with_reducible repeat (first | apply Kd.R_alloc | apply Kd.R_drewN | apply Kd.R_drew)); exact HO_12.out⟩, ⟨by (with_reducible repeat (first | apply Kd.R_alloc | apply Kd.R_drewN | apply Kd.R_drew)); exact HO_13.out⟩, ⟨by (with_reducible repeat (first | apply Kd.R_alloc | apply Kd.R_drewN | apply Kd.R_drew)); exact HO199.out⟩, ⟨by (with_reducible repeat (first | refine blk_drewN ?_ _ | refine blk_drew ?_ | refine blk_alloc ?_ _)); exact BK165.out⟩, ⟨by repeat (first | (with_reducible first | exact HB.out | apply below_alloc | apply pw_below_drewN | apply below_drew1 | refine below_set ?_ GE165.out) | exact HB.out)⟩⟩
                            · rw [if_neg c83] at H
                              have c83b0 : (t197 == 0) = false := beq_eq_false_iff_ne.mpr c83
                              have c83b1 : (t197 != 0) = true := bne_iff_ne.mpr c83
                              (first | rw [c83b0] | (simp only [i64_w, i32_w]; rw [c83b0]) | skip)
                              have H' := Aside0.mk H
                              clear H
                              go_wp2
                              repeat (go_quiet (fail); try go_wp2)
                              go_meet
                              case rel => exact ⟨_, (true), (by first | rfl | (simp; done) | (simp [*]; done)), H', ⟨by have := HK1.out; have := HK2.out; have := HJ12.out; have := HJ74.out; first | omega | exact Nat.le_refl _⟩, ⟨by (with_reducible repeat (first | apply Kd.R_alloc | apply Kd.R_drewN | apply Kd.R_drew)); exact HO_12.out⟩, ⟨by (with_reducible repeat (first | apply Kd.R_alloc | apply Kd.R_drewN | apply Kd.R_drew)); exact HO_13.out⟩, ⟨by (with_reducible repeat (first | apply Kd.R_alloc | apply Kd.R_drewN | apply Kd.R_drew)); exact HO199.out⟩, ⟨by (with_reducible repeat (first | refine blk_drewN ?_ _ | refine blk_drew ?_ | refine blk_alloc ?_ _)); exact BK165.out⟩, ⟨by repeat (first | (with_reducible first | exact HB.out | apply below_alloc | apply pw_below_drewN | apply below_drew1 | refine below_set ?_ GE165.out) | exact HB.out)⟩⟩
                          case rest =>
                            clear HC81
                            try clear c1
                            try clear p1
                            try clear q1
                            try clear hx1
                            try clear c2
                            try clear p2
                            try clear q2
                            try clear hx2
                            try clear hcv2
                            try clear qi2
                            try clear c3
                            try clear c4
                            try clear c5
                            try clear c6
                            try clear p6
                            try clear c7
                            try clear c8
                            try clear c8b0
                            try clear c9
                            try clear c9b0
                            try clear c9b1
                            try clear c10
                            try clear c10b0
                            try clear c10b1
                            try clear c11
                            try clear c11b0
                            try clear c11b1
                            try clear c12
                            try clear c12b0
                            try clear c12b1
                            try clear c12b2
                            try clear c14
                            try clear c14b0
                            try clear c15
                            try clear c15b0
                            try clear c16
                            try clear p16
                            try clear q16
                            try clear hx16
                            try clear c17
                            try clear c17b0
                            try clear p17
                            try clear q17
                            try clear hx17
                            try clear c18
                            try clear c18b0
                            try clear c19
                            try clear c19b0
                            try clear c19b1
                            try clear c19b2
                            try clear c20
                            try clear c20b0
                            try clear p20
                            try clear q20
                            try clear hx20
                            try clear qi20
                            try clear hcv26
                            try clear c28
                            try clear c29
                            try clear c29b0
                            try clear c29b1
                            try clear c31
                            try clear c32
                            try clear c32b0
                            try clear c32b1
                            try clear c32b2
                            try clear c33
                            try clear c33b0
                            try clear c33b1
                            try clear c33b2
                            try clear c34
                            try clear c34b0
                            try clear c34b1
                            try clear c34b2
                            try clear c35
                            try clear c35b0
                            try clear c35b1
                            try clear c35b2
                            try clear c36
                            try clear c36b0
                            try clear c36b1
                            try clear c36b2
                            try clear c37
                            try clear c37b0
                            try clear c37b1
                            try clear c37b2
                            try clear c38
                            try clear c38b0
                            try clear c38b1
                            try clear c38b2
                            try clear c40
                            try clear c40b0
                            try clear c40b1
                            try clear c40b2
                            try clear c41
                            try clear c41b0
                            try clear c41b1
                            try clear c41b2
                            try clear c42
                            try clear c43
                            try clear c46
                            try clear c46b0
                            try clear c46b1
                            try clear c46b2
                            try clear c47
                            try clear c47b0
                            try clear c47b1
                            try clear c47b2
                            try clear c48
                            try clear c48b0
                            try clear c48b1
                            try clear c48b2
                            try clear c49
                            try clear c49b0
                            try clear c49b1
                            try clear c49b2
                            try clear c50
                            try clear c50b0
                            try clear c50b1
                            try clear c50b2
                            try clear c51
                            try clear c51b0
                            try clear c51b1
                            try clear c51b2
                            try clear c52
                            try clear c52b0
                            try clear c52b1
                            try clear c52b2
                            try clear c54
                            try clear c54b0
                            try clear c54b1
                            try clear c54b2
                            try clear c55
                            try clear c55b0
                            try clear c55b1
                            try clear c55b2
                            try clear c56
                            try clear c57
                            try clear c60
                            try clear c60b0
                            try clear c60b1
                            try clear c60b2
                            try clear c61
                            try clear c61b0
                            try clear c61b1
                            try clear c61b2
                            try clear c62
                            try clear c62b0
                            try clear c62b1
                            try clear c62b2
                            try clear c63
                            try clear c63b0
                            try clear c63b1
                            try clear c63b2
                            try clear c64
                            try clear c64b0
                            try clear c64b1
                            try clear c64b2
                            try clear p64
                            try clear c65
                            try clear c65b0
                            try clear c65b1
                            try clear c65b2
                            try clear c66
                            try clear c66b0
                            try clear c66b1
                            try clear c66b2
                            try clear c68
                            try clear c68b0
                            try clear c68b1
                            try clear c68b2
                            try clear c69
                            try clear c69b0
                            try clear c69b1
                            try clear c69b2
                            try clear c70
                            try clear c71
                            try clear c74
                            try clear c74b0
                            try clear c74b1
                            try clear c74b2
                            try clear c77
                            try clear c77b0
                            try clear c77b1
                            try clear c78
                            try clear c78b0
                            try clear c78b1
                            try clear c78b2
                            try clear c79
                            try clear c79b0
                            try clear c79b1
                            try clear c79b2
                            try clear c83
                            try clear c83b0
                            try clear c83b1
                            try clear c84
                            try clear c84b0
                            try clear c84b1
                            try clear c85
                            try clear c85b0
                            try clear c85b1
                            try clear hcz76_0
                            try clear hcz76_1
                            try clear hcz7_0
                            try clear hcz7_1
                            try clear hfz76_0
                            try clear hfz76_1
                            try clear hfz7_0
                            try clear hfz7_1
                            try clear hx167_0
                            try clear hx171_0
                            try clear hx200_0
                            try clear hx200_1
                            try clear hx200_2
                            try clear hx200_3
                            try clear hx200_4
                            try clear p1
                            try clear p16
                            try clear p167
                            try clear p17
                            try clear p171
                            try clear p2
                            try clear p200
                            try clear p6
                            try clear p64
                            try clear q1
                            try clear q16
                            try clear q167
                            try clear q17
                            try clear q171
                            try clear q200
                            obtain ⟨kq, x133_80, rfl, HA, HJ80, HO_12, HO_13, HO_18, BK165, HB⟩ := hcut
                            cases kq with
                            | zero => exact absurd HA.out (by simp [topiarylaw12_LexerWrites.j5])
                            | succ kj80 =>
                              have H := HA.out
                              clear HA
                              simp only [topiarylaw12_LexerWrites.j5] at H
                              by_cases c90 : x133_80 = true
                              · subst c90
                                have H1 : (some false) = some r := by rw [if_pos rfl] at H; exact H
                                clear H
                                have H := H1
                                clear H1
                                obtain rfl := Option.some.inj H
                                go_wp2
                                repeat (go_quiet (fail); try go_wp2)
                                go_ret
                                exact ⟨by first | rfl | (simp [errW_none, errW_some] <;> rfl) | (simp [*, errW_none, errW_some] <;> rfl), by repeat (first | (with_reducible first | exact HB.out | apply below_alloc | apply pw_below_drewN | apply below_drew1 | refine below_set ?_ GE165.out) | exact HB.out)⟩
                              · replace c90 := Bool.eq_false_iff.mpr c90
                                subst c90
                                have H1 : (topiarylaw12_LexerWrites.l2 kj80 t166 x12_2 x13_2 t196 0 a2_0 a2_1) = some r := by rw [if_neg (show ¬ (false = true) by decide)] at H; exact H
                                clear H
                                have H := H1
                                clear H1
                                have H' := Aside0.mk H
                                clear H
                                go_wp2
                                repeat (go_quiet (fail); try go_wp2)
                                go_loopg [20] kj80 (fun kq v20 w' => ∃ (x20_6 : Int), v20 = .int .i64 x20_6 ∧ Aside0 (topiarylaw12_LexerWrites.l2 kq t166 x12_2 x13_2 t196 x20_6 a2_0 a2_1 = some r) ∧ Aside0 (kq ≤ kj80) ∧ Aside0 (Kd.R Kd.string 9 w' w.heap.size (fun k_ => some k_ ≠ (u13 : Value).ownBlock) u12 x12_2) ∧ Aside0 (Kd.R Kd.string 9 w' w.heap.size (fun k_ => some k_ ≠ (u12 : Value).ownBlock) u13 x13_2) ∧ Aside0 (Kd.R k41 41 w' w.heap.size (fun _ => True) v198 t196) ∧ Aside0 (w'.heap[gb165]? = some (.cells #[.int .i64 a2_0, .int .i64 a2_1] 34 (0, 0))) ∧ Aside0 (Below w.heap.size w w'))
                                case atStart => exact ⟨(0), (by first | rfl | (simp; done) | (simp [*]; done)), H', ⟨Nat.le_refl _⟩, ⟨by (with_reducible repeat (first | apply Kd.R_alloc | apply Kd.R_drewN | apply Kd.R_drew)); exact HO_12.out⟩, ⟨by (with_reducible repeat (first | apply Kd.R_alloc | apply Kd.R_drewN | apply Kd.R_drew)); exact HO_13.out⟩, ⟨by (with_reducible repeat (first | apply Kd.R_alloc | apply Kd.R_drewN | apply Kd.R_drew)); exact HO_18.out⟩, ⟨by (with_reducible repeat (first | refine blk_drewN ?_ _ | refine blk_drew ?_ | refine blk_alloc ?_ _)); exact BK165.out⟩, ⟨by repeat (first | (with_reducible first | exact HB.out | apply below_alloc | apply pw_below_drewN | apply below_drew1 | refine below_set ?_ GE165.out) | exact HB.out)⟩⟩
                                case round =>
                                  clear H'
                                  try clear c1
                                  try clear p1
                                  try clear q1
                                  try clear hx1
                                  try clear c2
                                  try clear p2
                                  try clear q2
                                  try clear hx2
                                  try clear hcv2
                                  try clear qi2
                                  try clear c3
                                  try clear c4
                                  try clear c5
                                  try clear c6
                                  try clear p6
                                  try clear c7
                                  try clear c8
                                  try clear c8b0
                                  try clear c9
                                  try clear c9b0
                                  try clear c9b1
                                  try clear c10
                                  try clear c10b0
                                  try clear c10b1
                                  try clear c11
                                  try clear c11b0
                                  try clear c11b1
                                  try clear c12
                                  try clear c12b0
                                  try clear c12b1
                                  try clear c12b2
                                  try clear c14
                                  try clear c14b0
                                  try clear c15
                                  try clear c15b0
                                  try clear c16
                                  try clear p16
                                  try clear q16
                                  try clear hx16
                                  try clear c17
                                  try clear c17b0
                                  try clear p17
                                  try clear q17
                                  try clear hx17
                                  try clear c18
                                  try clear c18b0
                                  try clear c19
                                  try clear c19b0
                                  try clear c19b1
                                  try clear c19b2
                                  try clear c20
                                  try clear c20b0
                                  try clear p20
                                  try clear q20
                                  try clear hx20
                                  try clear qi20
                                  try clear hcv26
                                  try clear c28
                                  try clear c29
                                  try clear c29b0
                                  try clear c29b1
                                  try clear c31
                                  try clear c32
                                  try clear c32b0
                                  try clear c32b1
                                  try clear c32b2
                                  try clear c33
                                  try clear c33b0
                                  try clear c33b1
                                  try clear c33b2
                                  try clear c34
                                  try clear c34b0
                                  try clear c34b1
                                  try clear c34b2
                                  try clear c35
                                  try clear c35b0
                                  try clear c35b1
                                  try clear c35b2
                                  try clear c36
                                  try clear c36b0
                                  try clear c36b1
                                  try clear c36b2
                                  try clear c37
                                  try clear c37b0
                                  try clear c37b1
                                  try clear c37b2
                                  try clear c38
                                  try clear c38b0
                                  try clear c38b1
                                  try clear c38b2
                                  try clear c40
                                  try clear c40b0
                                  try clear c40b1
                                  try clear c40b2
                                  try clear c41
                                  try clear c41b0
                                  try clear c41b1
                                  try clear c41b2
                                  try clear c42
                                  try clear c43
                                  try clear c46
                                  try clear c46b0
                                  try clear c46b1
                                  try clear c46b2
                                  try clear c47
                                  try clear c47b0
                                  try clear c47b1
                                  try clear c47b2
                                  try clear c48
                                  try clear c48b0
                                  try clear c48b1
                                  try clear c48b2
                                  try clear c49
                                  try clear c49b0
                                  try clear c49b1
                                  try clear c49b2
                                  try clear c50
                                  try clear c50b0
                                  try clear c50b1
                                  try clear c50b2
                                  try clear c51
                                  try clear c51b0
                                  try clear c51b1
                                  try clear c51b2
                                  try clear c52
                                  try clear c52b0
                                  try clear c52b1
                                  try clear c52b2
                                  try clear c54
                                  try clear c54b0
                                  try clear c54b1
                                  try clear c54b2
                                  try clear c55
                                  try clear c55b0
                                  try clear c55b1
                                  try clear c55b2
                                  try clear c56
                                  try clear c57
                                  try clear c60
                                  try clear c60b0
                                  try clear c60b1
                                  try clear c60b2
                                  try clear c61
                                  try clear c61b0
                                  try clear c61b1
                                  try clear c61b2
                                  try clear c62
                                  try clear c62b0
                                  try clear c62b1
                                  try clear c62b2
                                  try clear c63
                                  try clear c63b0
                                  try clear c63b1
                                  try clear c63b2
                                  try clear c64
                                  try clear c64b0
                                  try clear c64b1
                                  try clear c64b2
                                  try clear p64
                                  try clear c65
                                  try clear c65b0
                                  try clear c65b1
                                  try clear c65b2
                                  try clear c66
                                  try clear c66b0
                                  try clear c66b1
                                  try clear c66b2
                                  try clear c68
                                  try clear c68b0
                                  try clear c68b1
                                  try clear c68b2
                                  try clear c69
                                  try clear c69b0
                                  try clear c69b1
                                  try clear c69b2
                                  try clear c70
                                  try clear c71
                                  try clear c74
                                  try clear c74b0
                                  try clear c74b1
                                  try clear c74b2
                                  try clear c77
                                  try clear c77b0
                                  try clear c77b1
                                  try clear c78
                                  try clear c78b0
                                  try clear c78b1
                                  try clear c78b2
                                  try clear c79
                                  try clear c79b0
                                  try clear c79b1
                                  try clear c79b2
                                  try clear c83
                                  try clear c83b0
                                  try clear c83b1
                                  try clear c84
                                  try clear c84b0
                                  try clear c84b1
                                  try clear c85
                                  try clear c85b0
                                  try clear c85b1
                                  try clear c90
                                  try clear hcz76_0
                                  try clear hcz76_1
                                  try clear hcz7_0
                                  try clear hcz7_1
                                  try clear hfz76_0
                                  try clear hfz76_1
                                  try clear hfz7_0
                                  try clear hfz7_1
                                  try clear hx167_0
                                  try clear hx171_0
                                  try clear hx200_0
                                  try clear hx200_1
                                  try clear hx200_2
                                  try clear hx200_3
                                  try clear hx200_4
                                  try clear p1
                                  try clear p16
                                  try clear p167
                                  try clear p17
                                  try clear p171
                                  try clear p2
                                  try clear p20
                                  try clear p200
                                  try clear p6
                                  try clear p64
                                  try clear q1
                                  try clear q16
                                  try clear q167
                                  try clear q17
                                  try clear q171
                                  try clear q2
                                  try clear q20
                                  try clear q200
                                  obtain ⟨x20_6, rfl, HA, HK6, HO_12, HO_13, HO_18, BK165, HB⟩ := hrel
                                  cases gk with
                                  | zero => exact absurd HA.out (by simp [topiarylaw12_LexerWrites.l2])
                                  | succ k6 =>
                                    have H := HA.out
                                    clear HA
                                    simp only [topiarylaw12_LexerWrites.l2] at H
                                    by_cases c91 : x20_6 < (x12_2.length : Int)
                                    · rw [if_pos c91] at H
                                      have c91b0 : decide (x20_6 < (x12_2.length : Int)) = true := decide_eq_true c91
                                      clear c91
                                      obtain ⟨ji92, hji92⟩ : ∃ j_ : Int, (wrap64 (x20_6 + 1)) = j_ := ⟨_, rfl⟩
                                      replace H : (if 0 ≤ (ji92) then (if (ji92) < (t196.length : Int) then (if ((rd_T41 t196 (ji92)).f0) = 2 then (if 0 ≤ x20_6 then (if x20_6 < (x13_2.length : Int) then (if ((rd_T41 t196 (ji92)).f3).toList = (rdOf ByteArray.empty x13_2 x20_6).toList then (if ((rd_T41 t196 (ji92)).f4).toList = (rdOf ByteArray.empty x12_2 x20_6).toList then (topiarylaw12_LexerWrites.l2 k6 t166 x12_2 x13_2 t196 ji92 a2_0 a2_1) else (some false)) else (some false)) else (none)) else (none)) else (some false)) else (none)) else (none)) = some r := by first | (rw [hji92] at H; exact H) | (simp only [hji92] at H ⊢; exact H)
                                      have hji92w : (IntKind.i64.wrap (x20_6 + 1)) = ji92 := (i64_w _).trans hji92
                                      by_cases c93 : 0 ≤ (ji92)
                                      · rw [if_pos c93] at H
                                        have c93b0 : decide (0 ≤ (ji92)) = true := decide_eq_true c93
                                        clear c93
                                        by_cases c94 : (ji92) < (t196.length : Int)
                                        · rw [if_pos c94] at H
                                          have c94b0 : decide ((ji92) < (t196.length : Int)) = true := decide_eq_true c94
                                          clear c94
                                          by_cases c95 : ((rd_T41 t196 (ji92)).f0) = 2
                                          · rw [if_pos c95] at H
                                            have c95b0 : (((rd_T41 t196 (ji92)).f0) == 2) = true := beq_iff_eq.mpr c95
                                            have c95b1 : (((rd_T41 t196 (ji92)).f0) != 2) = false := bne_eq_false_iff_eq.mpr c95
                                            clear c95
                                            by_cases c96 : 0 ≤ x20_6
                                            · rw [if_pos c96] at H
                                              have c96b0 : decide (0 ≤ x20_6) = true := decide_eq_true c96
                                              clear c96
                                              by_cases c97 : x20_6 < (x13_2.length : Int)
                                              · rw [if_pos c97] at H
                                                have c97b0 : decide (x20_6 < (x13_2.length : Int)) = true := decide_eq_true c97
                                                clear c97
                                                by_cases c98 : ((rd_T41 t196 (ji92)).f3).toList = (rdOf ByteArray.empty x13_2 x20_6).toList
                                                · rw [if_pos c98] at H
                                                  have c98b0 : (((rd_T41 t196 (ji92)).f3).toList == (rdOf ByteArray.empty x13_2 x20_6).toList) = true := beq_iff_eq.mpr c98
                                                  have c98b1 : (((rd_T41 t196 (ji92)).f3).toList != (rdOf ByteArray.empty x13_2 x20_6).toList) = false := bne_eq_false_iff_eq.mpr c98
                                                  clear c98
                                                  by_cases c99 : ((rd_T41 t196 (ji92)).f4).toList = (rdOf ByteArray.empty x12_2 x20_6).toList
                                                  · rw [if_pos c99] at H
                                                    have c99b0 : (((rd_T41 t196 (ji92)).f4).toList == (rdOf ByteArray.empty x12_2 x20_6).toList) = true := beq_iff_eq.mpr c99
                                                    have c99b1 : (((rd_T41 t196 (ji92)).f4).toList != (rdOf ByteArray.empty x12_2 x20_6).toList) = false := bne_eq_false_iff_eq.mpr c99
                                                    clear c99
                                                    have H' := Aside0.mk H
                                                    clear H
                                                    obtain ⟨Ao100, co100, eo100⟩ := Kd.R_slice HO_12.out
                                                    subst eo100
                                                    obtain ⟨Ao101, co101, eo101⟩ := Kd.R_slice HO_18.out
                                                    subst eo101
                                                    have p201 : 0 ≤ ((ji92) : Int) := of_decide_eq_true (by first | (with_reducible assumption) | assumption)
                                                    have q201 : (ji92) < (t196.length : Int) := of_decide_eq_true (by first | (with_reducible assumption) | assumption)
                                                    obtain ⟨ad201, e201, hx201_0, hx201_1, hx201_2, hx201_3, hx201_4⟩ := at_T41 (Kd.R_reads' HO_18.out).2.2 (ji92) p201 q201
                                                    cases e201
                                                    replace p201 := eq_true p201
                                                    replace q201 := eq_true q201
                                                    have p202 : 0 ≤ ((ji92) : Int) := of_decide_eq_true (by first | (with_reducible assumption) | assumption)
                                                    have q202 : (ji92) < (t196.length : Int) := of_decide_eq_true (by first | (with_reducible assumption) | assumption)
                                                    obtain ⟨ad202, e202, hx202_0, hx202_1, hx202_2, hx202_3, hx202_4⟩ := at_T41 (Kd.R_reads' HO_18.out).2.2 (ji92) p202 q202
                                                    obtain rfl : ad201 = ad202 := (by injection e202)
                                                    replace p202 := eq_true p202
                                                    replace q202 := eq_true q202
                                                    obtain ⟨Ao102, co102, eo102⟩ := Kd.R_slice HO_13.out
                                                    subst eo102
                                                    have p203 : 0 ≤ (x20_6 : Int) := of_decide_eq_true (by first | (with_reducible assumption) | assumption)
                                                    have q203 : x20_6 < (x13_2.length : Int) := of_decide_eq_true (by first | (with_reducible assumption) | assumption)
                                                    obtain ⟨ad203, e203, hx203_0⟩ := Kd.at_string (Kd.R_reads' HO_13.out).2.2 x20_6 p203 q203
                                                    cases e203
                                                    replace p203 := eq_true p203
                                                    replace q203 := eq_true q203
                                                    have p204 : 0 ≤ ((ji92) : Int) := of_decide_eq_true (by first | (with_reducible assumption) | assumption)
                                                    have q204 : (ji92) < (t196.length : Int) := of_decide_eq_true (by first | (with_reducible assumption) | assumption)
                                                    obtain ⟨ad204, e204, hx204_0, hx204_1, hx204_2, hx204_3, hx204_4⟩ := at_T41 (Kd.R_reads' HO_18.out).2.2 (ji92) p204 q204
                                                    obtain rfl : ad201 = ad204 := (by injection e204)
                                                    replace p204 := eq_true p204
                                                    replace q204 := eq_true q204
                                                    have p205 : 0 ≤ (x20_6 : Int) := of_decide_eq_true (by first | (with_reducible assumption) | assumption)
                                                    have q205 : x20_6 < (x12_2.length : Int) := of_decide_eq_true (by first | (with_reducible assumption) | assumption)
                                                    obtain ⟨ad205, e205, hx205_0⟩ := Kd.at_string (Kd.R_reads' HO_12.out).2.2 x20_6 p205 q205
                                                    cases e205
                                                    replace p205 := eq_true p205
                                                    replace q205 := eq_true q205
                                                    go_wp2
                                                    repeat (go_quiet (fail); try go_wp2)
                                                    go_roundg k6
                                                    case measure => have := HK1.out; have := HK2.out; have := HJ12.out; have := HJ74.out; have := HJ80.out; have := HK6.out; omega
                                                    case rel => exact ⟨(ji92), (by first | rfl | (simp; done) | (simp only [← hji92] <;> (first | rfl | simp)) | (simp [*]; done)), H', ⟨by have := HK1.out; have := HK2.out; have := HJ12.out; have := HJ74.out; have := HJ80.out; have := HK6.out; omega⟩, ⟨by (with_reducible repeat (first | apply Kd.R_alloc | apply Kd.R_drewN | apply Kd.R_drew)); exact HO_12.out⟩, ⟨by (with_reducible repeat (first | apply Kd.R_alloc | apply Kd.R_drewN | apply Kd.R_drew)); exact HO_13.out⟩, ⟨by (with_reducible repeat (first | apply Kd.R_alloc | apply Kd.R_drewN | apply Kd.R_drew)); exact HO_18.out⟩, ⟨by (with_reducible repeat (first | refine blk_drewN ?_ _ | refine blk_drew ?_ | refine blk_alloc ?_ _)); exact BK165.out⟩, ⟨by repeat (first | (with_reducible first | exact HB.out | apply below_alloc | apply pw_below_drewN | apply below_drew1 | refine below_set ?_ GE165.out) | exact HB.out)⟩⟩
                                                  · rw [if_neg c99] at H
                                                    have c99b0 : (((rd_T41 t196 (ji92)).f4).toList == (rdOf ByteArray.empty x12_2 x20_6).toList) = false := beq_eq_false_iff_ne.mpr c99
                                                    have c99b1 : (((rd_T41 t196 (ji92)).f4).toList != (rdOf ByteArray.empty x12_2 x20_6).toList) = true := bne_iff_ne.mpr c99
                                                    obtain rfl := Option.some.inj H
                                                    obtain ⟨Ao103, co103, eo103⟩ := Kd.R_slice HO_12.out
                                                    subst eo103
                                                    obtain ⟨Ao104, co104, eo104⟩ := Kd.R_slice HO_18.out
                                                    subst eo104
                                                    have p201 : 0 ≤ ((ji92) : Int) := of_decide_eq_true (by first | (with_reducible assumption) | assumption)
                                                    have q201 : (ji92) < (t196.length : Int) := of_decide_eq_true (by first | (with_reducible assumption) | assumption)
                                                    obtain ⟨ad201, e201, hx201_0, hx201_1, hx201_2, hx201_3, hx201_4⟩ := at_T41 (Kd.R_reads' HO_18.out).2.2 (ji92) p201 q201
                                                    cases e201
                                                    replace p201 := eq_true p201
                                                    replace q201 := eq_true q201
                                                    have p202 : 0 ≤ ((ji92) : Int) := of_decide_eq_true (by first | (with_reducible assumption) | assumption)
                                                    have q202 : (ji92) < (t196.length : Int) := of_decide_eq_true (by first | (with_reducible assumption) | assumption)
                                                    obtain ⟨ad202, e202, hx202_0, hx202_1, hx202_2, hx202_3, hx202_4⟩ := at_T41 (Kd.R_reads' HO_18.out).2.2 (ji92) p202 q202
                                                    obtain rfl : ad201 = ad202 := (by injection e202)
                                                    replace p202 := eq_true p202
                                                    replace q202 := eq_true q202
                                                    obtain ⟨Ao105, co105, eo105⟩ := Kd.R_slice HO_13.out
                                                    subst eo105
                                                    have p203 : 0 ≤ (x20_6 : Int) := of_decide_eq_true (by first | (with_reducible assumption) | assumption)
                                                    have q203 : x20_6 < (x13_2.length : Int) := of_decide_eq_true (by first | (with_reducible assumption) | assumption)
                                                    obtain ⟨ad203, e203, hx203_0⟩ := Kd.at_string (Kd.R_reads' HO_13.out).2.2 x20_6 p203 q203
                                                    cases e203
                                                    replace p203 := eq_true p203
                                                    replace q203 := eq_true q203
                                                    have p204 : 0 ≤ ((ji92) : Int) := of_decide_eq_true (by first | (with_reducible assumption) | assumption)
                                                    have q204 : (ji92) < (t196.length : Int) := of_decide_eq_true (by first | (with_reducible assumption) | assumption)
                                                    obtain ⟨ad204, e204, hx204_0, hx204_1, hx204_2, hx204_3, hx204_4⟩ := at_T41 (Kd.R_reads' HO_18.out).2.2 (ji92) p204 q204
                                                    obtain rfl : ad201 = ad204 := (by injection e204)
                                                    replace p204 := eq_true p204
                                                    replace q204 := eq_true q204
                                                    have p205 : 0 ≤ (x20_6 : Int) := of_decide_eq_true (by first | (with_reducible assumption) | assumption)
                                                    have q205 : x20_6 < (x12_2.length : Int) := of_decide_eq_true (by first | (with_reducible assumption) | assumption)
                                                    obtain ⟨ad205, e205, hx205_0⟩ := Kd.at_string (Kd.R_reads' HO_12.out).2.2 x20_6 p205 q205
                                                    cases e205
                                                    replace p205 := eq_true p205
                                                    replace q205 := eq_true q205
                                                    go_wp2
                                                    repeat (go_quiet (fail); try go_wp2)
                                                    go_ret
                                                    exact ⟨by first | rfl | (simp [errW_none, errW_some] <;> rfl) | (simp only [← hji92]; first | rfl | (simp [errW_none, errW_some] <;> rfl)) | (simp [*, errW_none, errW_some] <;> rfl), by repeat (first | (with_reducible first | exact HB.out | apply below_alloc | apply pw_below_drewN | apply below_drew1 | refine below_set ?_ GE165.out) | exact HB.out)⟩
                                                · rw [if_neg c98] at H
                                                  have c98b0 : (((rd_T41 t196 (ji92)).f3).toList == (rdOf ByteArray.empty x13_2 x20_6).toList) = false := beq_eq_false_iff_ne.mpr c98
                                                  have c98b1 : (((rd_T41 t196 (ji92)).f3).toList != (rdOf ByteArray.empty x13_2 x20_6).toList) = true := bne_iff_ne.mpr c98
                                                  obtain rfl := Option.some.inj H
                                                  obtain ⟨Ao106, co106, eo106⟩ := Kd.R_slice HO_12.out
                                                  subst eo106
                                                  obtain ⟨Ao107, co107, eo107⟩ := Kd.R_slice HO_18.out
                                                  subst eo107
                                                  have p201 : 0 ≤ ((ji92) : Int) := of_decide_eq_true (by first | (with_reducible assumption) | assumption)
                                                  have q201 : (ji92) < (t196.length : Int) := of_decide_eq_true (by first | (with_reducible assumption) | assumption)
                                                  obtain ⟨ad201, e201, hx201_0, hx201_1, hx201_2, hx201_3, hx201_4⟩ := at_T41 (Kd.R_reads' HO_18.out).2.2 (ji92) p201 q201
                                                  cases e201
                                                  replace p201 := eq_true p201
                                                  replace q201 := eq_true q201
                                                  have p202 : 0 ≤ ((ji92) : Int) := of_decide_eq_true (by first | (with_reducible assumption) | assumption)
                                                  have q202 : (ji92) < (t196.length : Int) := of_decide_eq_true (by first | (with_reducible assumption) | assumption)
                                                  obtain ⟨ad202, e202, hx202_0, hx202_1, hx202_2, hx202_3, hx202_4⟩ := at_T41 (Kd.R_reads' HO_18.out).2.2 (ji92) p202 q202
                                                  obtain rfl : ad201 = ad202 := (by injection e202)
                                                  replace p202 := eq_true p202
                                                  replace q202 := eq_true q202
                                                  obtain ⟨Ao108, co108, eo108⟩ := Kd.R_slice HO_13.out
                                                  subst eo108
                                                  have p203 : 0 ≤ (x20_6 : Int) := of_decide_eq_true (by first | (with_reducible assumption) | assumption)
                                                  have q203 : x20_6 < (x13_2.length : Int) := of_decide_eq_true (by first | (with_reducible assumption) | assumption)
                                                  obtain ⟨ad203, e203, hx203_0⟩ := Kd.at_string (Kd.R_reads' HO_13.out).2.2 x20_6 p203 q203
                                                  cases e203
                                                  replace p203 := eq_true p203
                                                  replace q203 := eq_true q203
                                                  go_wp2
                                                  repeat (go_quiet (fail); try go_wp2)
                                                  go_ret
                                                  exact ⟨by first | rfl | (simp [errW_none, errW_some] <;> rfl) | (simp only [← hji92]; first | rfl | (simp [errW_none, errW_some] <;> rfl)) | (simp [*, errW_none, errW_some] <;> rfl), by repeat (first | (with_reducible first | exact HB.out | apply below_alloc | apply pw_below_drewN | apply below_drew1 | refine below_set ?_ GE165.out) | exact HB.out)⟩
                                              · rw [if_neg c97] at H
                                                exact absurd H (by simp)
                                            · rw [if_neg c96] at H
                                              exact absurd H (by simp)
                                          · rw [if_neg c95] at H
                                            have c95b0 : (((rd_T41 t196 (ji92)).f0) == 2) = false := beq_eq_false_iff_ne.mpr c95
                                            have c95b1 : (((rd_T41 t196 (ji92)).f0) != 2) = true := bne_iff_ne.mpr c95
                                            obtain rfl := Option.some.inj H
                                            obtain ⟨Ao109, co109, eo109⟩ := Kd.R_slice HO_12.out
                                            subst eo109
                                            obtain ⟨Ao110, co110, eo110⟩ := Kd.R_slice HO_18.out
                                            subst eo110
                                            have p201 : 0 ≤ ((ji92) : Int) := of_decide_eq_true (by first | (with_reducible assumption) | assumption)
                                            have q201 : (ji92) < (t196.length : Int) := of_decide_eq_true (by first | (with_reducible assumption) | assumption)
                                            obtain ⟨ad201, e201, hx201_0, hx201_1, hx201_2, hx201_3, hx201_4⟩ := at_T41 (Kd.R_reads' HO_18.out).2.2 (ji92) p201 q201
                                            cases e201
                                            replace p201 := eq_true p201
                                            replace q201 := eq_true q201
                                            go_wp2
                                            repeat (go_quiet (fail); try go_wp2)
                                            go_ret
                                            exact ⟨by first | rfl | (simp [errW_none, errW_some] <;> rfl) | (simp only [← hji92]; first | rfl | (simp [errW_none, errW_some] <;> rfl)) | (simp [*, errW_none, errW_some] <;> rfl), by repeat (first | (with_reducible first | exact HB.out | apply below_alloc | apply pw_below_drewN | apply below_drew1 | refine below_set ?_ GE165.out) | exact HB.out)⟩
                                        · rw [if_neg c94] at H
                                          exact absurd H (by simp)
                                      · rw [if_neg c93] at H
                                        exact absurd H (by simp)
                                    · rw [if_neg c91] at H
                                      have c91b0 : decide (x20_6 < (x12_2.length : Int)) = false := decide_eq_false c91
                                      clear c91
                                      obtain ⟨ji111, hji111⟩ : ∃ j_ : Int, (wrap64 ((t196.length : Int) - 1)) = j_ := ⟨_, rfl⟩
                                      replace H : (if 0 ≤ (ji111) then (if (ji111) < (t196.length : Int) then (if t166 = true then (some (((Int.tmod a2_1 2) == 0) == (((rd_T41 t196 (ji111)).f0) == 4))) else (some false)) else (none)) else (none)) = some r := by first | (rw [hji111] at H; exact H) | (simp only [hji111] at H ⊢; exact H)
                                      have hji111w : (IntKind.i64.wrap ((t196.length : Int) - 1)) = ji111 := (i64_w _).trans hji111
                                      by_cases c112 : 0 ≤ (ji111)
                                      · rw [if_pos c112] at H
                                        have c112b0 : decide (0 ≤ (ji111)) = true := decide_eq_true c112
                                        clear c112
                                        by_cases c113 : (ji111) < (t196.length : Int)
                                        · rw [if_pos c113] at H
                                          have c113b0 : decide ((ji111) < (t196.length : Int)) = true := decide_eq_true c113
                                          clear c113
                                          by_cases c114 : t166 = true
                                          · subst c114
                                            have H1 : (some (((Int.tmod a2_1 2) == 0) == (((rd_T41 t196 (ji111)).f0) == 4))) = some r := by rw [if_pos rfl] at H; exact H
                                            clear H
                                            have H := H1
                                            clear H1
                                            obtain rfl := Option.some.inj H
                                            obtain ⟨Ao115, co115, eo115⟩ := Kd.R_slice HO_12.out
                                            subst eo115
                                            obtain ⟨Ao116, co116, eo116⟩ := Kd.R_slice HO_18.out
                                            subst eo116
                                            have p206 : 0 ≤ ((ji111) : Int) := of_decide_eq_true (by first | (with_reducible assumption) | assumption)
                                            have q206 : (ji111) < (t196.length : Int) := of_decide_eq_true (by first | (with_reducible assumption) | assumption)
                                            obtain ⟨ad206, e206, hx206_0, hx206_1, hx206_2, hx206_3, hx206_4⟩ := at_T41 (Kd.R_reads' HO_18.out).2.2 (ji111) p206 q206
                                            cases e206
                                            replace p206 := eq_true p206
                                            replace q206 := eq_true q206
                                            have hcz117_0 : wr.cell? ⟨gb165, 0, none⟩ = some (.int .i64 a2_0) := (blk_cell BK165.out 0).trans rfl
                                            have hcz117_1 : wr.cell? ⟨gb165, 1, none⟩ = some (.int .i64 a2_1) := (blk_cell BK165.out 1).trans rfl
                                            have hfz117_0 := blk_frozen BK165.out 0
                                            have hfz117_1 := blk_frozen BK165.out 1
                                            go_wp2
                                            repeat (go_quiet (fail); try go_wp2)
                                            go_ret
                                            exact ⟨by first | rfl | (simp [errW_none, errW_some] <;> rfl) | (simp only [← hji111]; first | rfl | (simp [errW_none, errW_some] <;> rfl)) | (simp [*, errW_none, errW_some] <;> rfl), by repeat (first | (with_reducible first | exact HB.out | apply below_alloc | apply pw_below_drewN | apply below_drew1 | refine below_set ?_ GE165.out) | exact HB.out)⟩
                                          · replace c114 := Bool.eq_false_iff.mpr c114
                                            subst c114
                                            have H1 : (some false) = some r := by rw [if_neg (show ¬ (false = true) by decide)] at H; exact H
                                            clear H
                                            have H := H1
                                            clear H1
                                            obtain rfl := Option.some.inj H
                                            obtain ⟨Ao118, co118, eo118⟩ := Kd.R_slice HO_12.out
                                            subst eo118
                                            obtain ⟨Ao119, co119, eo119⟩ := Kd.R_slice HO_18.out
                                            subst eo119
                                            have p206 : 0 ≤ ((ji111) : Int) := of_decide_eq_true (by first | (with_reducible assumption) | assumption)
                                            have q206 : (ji111) < (t196.length : Int) := of_decide_eq_true (by first | (with_reducible assumption) | assumption)
                                            obtain ⟨ad206, e206, hx206_0, hx206_1, hx206_2, hx206_3, hx206_4⟩ := at_T41 (Kd.R_reads' HO_18.out).2.2 (ji111) p206 q206
                                            cases e206
                                            replace p206 := eq_true p206
                                            replace q206 := eq_true q206
                                            go_wp2
                                            repeat (go_quiet (fail); try go_wp2)
                                            go_ret
                                            exact ⟨by first | rfl | (simp [errW_none, errW_some] <;> rfl) | (simp only [← hji111]; first | rfl | (simp [errW_none, errW_some] <;> rfl)) | (simp [*, errW_none, errW_some] <;> rfl), by repeat (first | (with_reducible first | exact HB.out | apply below_alloc | apply pw_below_drewN | apply below_drew1 | refine below_set ?_ GE165.out) | exact HB.out)⟩
                                        · rw [if_neg c113] at H
                                          exact absurd H (by simp)
                                      · rw [if_neg c112] at H
                                        exact absurd H (by simp)
                        · rw [if_neg c79] at H
                          exact absurd H (by simp)
                  · rw [if_neg c74] at H
                    exact absurd H (by simp)
end Go.Proofs.Ytjlgenefjebcaaa.Q
end
