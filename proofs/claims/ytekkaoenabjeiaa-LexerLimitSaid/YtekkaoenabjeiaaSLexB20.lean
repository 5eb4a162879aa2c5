/- Parts of the proof of lexerStands_holds lexerTexts_holds lexerLimit_holds, kept and merged by a program of mine (wip/tools/slim.py) out of my texts: Q28 PureLexerTexts PureLexerLimit -/
import Derived.Test.YtekkaoenabjeiaaSLexB4
import Derived.Test.YtekkaoenabjeiaaSLexB18
import Derived.Test.YtekkaoenabjeiaaSLexB14
import Derived.Test.YtekkaoenabjeiaaSLexB9
import Derived.Test.YtekkaoenabjeiaaSLexB11
import Derived.Test.YtekkaoenabjeiaaSLexB5
section
namespace Go.Proofs.Ytekkaoenabjeiaa.X
end Go.Proofs.Ytekkaoenabjeiaa.X
namespace Go.Proofs.Ytekkaoenabjeiaa.Q
open Go.RowKit Go.Proofs.YtekkaoenabjeiaaW.PrintWords Go.Proofs.YtekkaoenabjeiaaW.PrintLast Go.Proofs.YtekkaoenabjeiaaW.PrintMore
attribute [local go_sem] max2_int min2_int max_two min_two max_three min_three max_four min_four   
open Go.Proofs.Ytekkaoenabjeiaa.X
set_option linter.unusedVariables false
set_option linter.unusedSimpArgs false
def topiarylaw12_LexerTexts.l0 : Nat → ByteArray → Bool → List (S46) → Int → List (S46) → Int → Bool → Int → Option (Bool)
  | 0, _, _, _, _, _, _, _, _ => none
  | k + 1, x0, x3, x4, x5, x6, x7, x8, x9 => if (wrap64 (x9 + 3)) ≤ (wrap64 ((x0.size : Int) + 2)) then (if x0.size + 3 ≤ 9223372036854775807 then (if x8 = true then (topiarylaw12_LexerTexts.l0 k x0 x3 x4 x5 x6 x7 true (wrap64 (x9 + 1))) else (if 0 ≤ x9 then (if x9 ≤ (wrap64 (x9 + 3)) then (if (wrap64 (x9 + 3)) ≤ ((x0 ++ (⟨#[93, 93, 62]⟩ : ByteArray)).size : Int) then (if ((x0 ++ (⟨#[93, 93, 62]⟩ : ByteArray)).extract (x9 : Int).toNat ((wrap64 (x9 + 3)) : Int).toNat).toList = ([93, 93, 62] : List UInt8) then (topiarylaw12_LexerTexts.l0 k x0 x3 x4 x5 x6 x7 (decide (x9 < (x0.size : Int))) (wrap64 (x9 + 1))) else (topiarylaw12_LexerTexts.l0 k x0 x3 x4 x5 x6 x7 false (wrap64 (x9 + 1)))) else (none)) else (none)) else (none))) else (none)) else (if x3 = true then (if x5 = 0 then (if (x4.length : Int) = 1 then (if 0 < (x4.length : Int) then (if ((rd_T46 x4 0).f0) = 6 then (if ((rd_T46 x4 0).f4).toList = x0.toList then (if x8 = true then (some true) else (if x7 = 0 then (if (x6.length : Int) = 1 then (if 0 < (x6.length : Int) then (if ((rd_T46 x6 0).f4).toList = x0.toList then (some (((rd_T46 x6 0).f0) == 6)) else (some false)) else (none)) else (some false)) else (some false))) else (some false)) else (some false)) else (none)) else (some false)) else (some false)) else (some false))
def topiarylaw12_LexerTexts.f (k : Nat) (a0 : ByteArray) : Option (Bool) := (topiarylaw12_awake.f).bind fun t367 => ((topiarylaw12_short.f a0 40).bind fun t368 => ((topiaryref11_Escape.f k t368).bind fun t369 => ((lexer_Lex.f t369).bind fun bt370 => (if 9 + t368.size ≤ 9223372036854775807 then (if ((⟨#[60, 33, 91, 67, 68, 65, 84, 65, 91]⟩ : ByteArray) ++ t368).size + 3 ≤ 9223372036854775807 then ((lexer_Lex.f (((⟨#[60, 33, 91, 67, 68, 65, 84, 65, 91]⟩ : ByteArray) ++ t368) ++ (⟨#[93, 93, 62]⟩ : ByteArray))).bind fun bt374 => ((topiaryref11_Valid.f k t368).bind fun t378 => (if t378 = true then (if t368.toList = ([] : List UInt8) then (if t367 = true then (if bt370.2 = 0 then (if (bt370.1.length : Int) = 0 then (if bt374.2 = 0 then (if (bt374.1.length : Int) = 1 then (if 0 < (bt374.1.length : Int) then (some (((rd_T46 bt374.1 0).f4).toList == ([] : List UInt8))) else (none)) else (some false)) else (some false)) else (some false)) else (some false)) else (some false)) else (topiarylaw12_LexerTexts.l0 k t368 t367 bt370.1 bt370.2 bt374.1 bt374.2 false 0)) else (if t367 = true then (if bt370.2 = 15 then (some (bt374.2 == 15)) else (some false)) else (some false))))) else (none)) else (none)))))
theorem topiarylaw12_LexerTexts.mono_l : ∀ k, (∀ y0 y1 y2 y3 y4 y5 y6 y7, LeO (topiarylaw12_LexerTexts.l0 k y0 y1 y2 y3 y4 y5 y6 y7) (topiarylaw12_LexerTexts.l0 (k + 1) y0 y1 y2 y3 y4 y5 y6 y7))
  | 0 => fun _ _ _ _ _ _ _ _ r h => by simp [topiarylaw12_LexerTexts.l0] at h
  | k + 1 => by
    have ih0 := topiarylaw12_LexerTexts.mono_l k
    · intro y0 y1 y2 y3 y4 y5 y6 y7
      unfold topiarylaw12_LexerTexts.l0
      repeat' first
      | (with_reducible exact ih0 _ _ _ _ _ _ _ _)
      | (with_reducible exact topiaryref11_Escape.mono _ _)
      | (with_reducible exact topiaryref11_Valid.mono _ _)
      | (with_reducible exact LeO.refl _)
      | (with_reducible exact LeO.none _)
      | (with_reducible refine LeO.ite ?_ ?_)
      | (with_reducible refine LeO.bind ?_ (fun _ => ?_))
      | exact ih0 _ _ _ _ _ _ _ _
      | exact topiaryref11_Escape.mono _ _
      | exact topiaryref11_Valid.mono _ _
      | exact LeO.none _
      | refine LeO.ite ?_ ?_
      | refine LeO.bind ?_ (fun _ => ?_)
theorem topiarylaw12_LexerTexts.mono : ∀ a0 k, LeO (topiarylaw12_LexerTexts.f k a0) (topiarylaw12_LexerTexts.f (k + 1) a0) := by
  intro a0 k
  have ih0 := topiarylaw12_LexerTexts.mono_l k
  unfold topiarylaw12_LexerTexts.f
  repeat' first
      | (with_reducible exact ih0 _ _ _ _ _ _ _ _)
      | (with_reducible exact topiaryref11_Escape.mono _ _)
      | (with_reducible exact topiaryref11_Valid.mono _ _)
      | (with_reducible exact LeO.refl _)
      | (with_reducible exact LeO.none _)
      | (with_reducible refine LeO.ite ?_ ?_)
      | (with_reducible refine LeO.bind ?_ (fun _ => ?_))
      | exact ih0 _ _ _ _ _ _ _ _
      | exact topiaryref11_Escape.mono _ _
      | exact topiaryref11_Valid.mono _ _
      | exact LeO.none _
      | refine LeO.ite ?_ ?_
      | refine LeO.bind ?_ (fun _ => ?_)
set_option maxHeartbeats 8000000 in
set_option maxRecDepth 100000 in
theorem topiarylaw12_LexerTexts.calls (k : Nat) (a0 : ByteArray) (r : Bool) (w : World) (hG : G w) (h : topiarylaw12_LexerTexts.f k a0 = some r) :
    Calls Try.prog 14 #[.string a0] w fun e w' => e = .returned (.bool r) ∧ Below w.heap.size w w' := by
  have HB := Aside0.mk (Below.refl w.heap.size w)
  have H : ((topiarylaw12_awake.f).bind fun t367 => ((topiarylaw12_short.f a0 40).bind fun t368 => ((topiaryref11_Escape.f k t368).bind fun t369 => ((lexer_Lex.f t369).bind fun bt370 => (if 9 + t368.size ≤ 9223372036854775807 then (if ((⟨#[60, 33, 91, 67, 68, 65, 84, 65, 91]⟩ : ByteArray) ++ t368).size + 3 ≤ 9223372036854775807 then ((lexer_Lex.f (((⟨#[60, 33, 91, 67, 68, 65, 84, 65, 91]⟩ : ByteArray) ++ t368) ++ (⟨#[93, 93, 62]⟩ : ByteArray))).bind fun bt374 => ((topiaryref11_Valid.f k t368).bind fun t378 => (if t378 = true then (if t368.toList = ([] : List UInt8) then (if t367 = true then (if bt370.2 = 0 then (if (bt370.1.length : Int) = 0 then (if bt374.2 = 0 then (if (bt374.1.length : Int) = 1 then (if 0 < (bt374.1.length : Int) then (some (((rd_T46 bt374.1 0).f4).toList == ([] : List UInt8))) else (none)) else (some false)) else (some false)) else (some false)) else (some false)) else (some false)) else (topiarylaw12_LexerTexts.l0 k t368 t367 bt370.1 bt370.2 bt374.1 bt374.2 false 0)) else (if t367 = true then (if bt370.2 = 15 then (some (bt374.2 == 15)) else (some false)) else (some false))))) else (none)) else (none)))))) = some r := h
  clear h
  replace H := Option.bind_eq_some_iff.mp H
  obtain ⟨t367, A20, H⟩ := H
  replace H : ((topiarylaw12_short.f a0 40).bind fun t368 => ((topiaryref11_Escape.f k t368).bind fun t369 => ((lexer_Lex.f t369).bind fun bt370 => (if 9 + t368.size ≤ 9223372036854775807 then (if ((⟨#[60, 33, 91, 67, 68, 65, 84, 65, 91]⟩ : ByteArray) ++ t368).size + 3 ≤ 9223372036854775807 then ((lexer_Lex.f (((⟨#[60, 33, 91, 67, 68, 65, 84, 65, 91]⟩ : ByteArray) ++ t368) ++ (⟨#[93, 93, 62]⟩ : ByteArray))).bind fun bt374 => ((topiaryref11_Valid.f k t368).bind fun t378 => (if t378 = true then (if t368.toList = ([] : List UInt8) then (if t367 = true then (if bt370.2 = 0 then (if (bt370.1.length : Int) = 0 then (if bt374.2 = 0 then (if (bt374.1.length : Int) = 1 then (if 0 < (bt374.1.length : Int) then (some (((rd_T46 bt374.1 0).f4).toList == ([] : List UInt8))) else (none)) else (some false)) else (some false)) else (some false)) else (some false)) else (some false)) else (topiarylaw12_LexerTexts.l0 k t368 t367 bt370.1 bt370.2 bt374.1 bt374.2 false 0)) else (if t367 = true then (if bt370.2 = 15 then (some (bt374.2 == 15)) else (some false)) else (some false))))) else (none)) else (none))))) = some r := H
  have A2 := Aside0.mk A20
  clear A20
  replace H := Option.bind_eq_some_iff.mp H
  obtain ⟨t368, A30, H⟩ := H
  replace H : ((topiaryref11_Escape.f k t368).bind fun t369 => ((lexer_Lex.f t369).bind fun bt370 => (if 9 + t368.size ≤ 9223372036854775807 then (if ((⟨#[60, 33, 91, 67, 68, 65, 84, 65, 91]⟩ : ByteArray) ++ t368).size + 3 ≤ 9223372036854775807 then ((lexer_Lex.f (((⟨#[60, 33, 91, 67, 68, 65, 84, 65, 91]⟩ : ByteArray) ++ t368) ++ (⟨#[93, 93, 62]⟩ : ByteArray))).bind fun bt374 => ((topiaryref11_Valid.f k t368).bind fun t378 => (if t378 = true then (if t368.toList = ([] : List UInt8) then (if t367 = true then (if bt370.2 = 0 then (if (bt370.1.length : Int) = 0 then (if bt374.2 = 0 then (if (bt374.1.length : Int) = 1 then (if 0 < (bt374.1.length : Int) then (some (((rd_T46 bt374.1 0).f4).toList == ([] : List UInt8))) else (none)) else (some false)) else (some false)) else (some false)) else (some false)) else (some false)) else (topiarylaw12_LexerTexts.l0 k t368 t367 bt370.1 bt370.2 bt374.1 bt374.2 false 0)) else (if t367 = true then (if bt370.2 = 15 then (some (bt374.2 == 15)) else (some false)) else (some false))))) else (none)) else (none)))) = some r := H
  have A3 := Aside0.mk A30
  clear A30
  replace H := Option.bind_eq_some_iff.mp H
  obtain ⟨t369, A40, H⟩ := H
  replace H : ((lexer_Lex.f t369).bind fun bt370 => (if 9 + t368.size ≤ 9223372036854775807 then (if ((⟨#[60, 33, 91, 67, 68, 65, 84, 65, 91]⟩ : ByteArray) ++ t368).size + 3 ≤ 9223372036854775807 then ((lexer_Lex.f (((⟨#[60, 33, 91, 67, 68, 65, 84, 65, 91]⟩ : ByteArray) ++ t368) ++ (⟨#[93, 93, 62]⟩ : ByteArray))).bind fun bt374 => ((topiaryref11_Valid.f k t368).bind fun t378 => (if t378 = true then (if t368.toList = ([] : List UInt8) then (if t367 = true then (if bt370.2 = 0 then (if (bt370.1.length : Int) = 0 then (if bt374.2 = 0 then (if (bt374.1.length : Int) = 1 then (if 0 < (bt374.1.length : Int) then (some (((rd_T46 bt374.1 0).f4).toList == ([] : List UInt8))) else (none)) else (some false)) else (some false)) else (some false)) else (some false)) else (some false)) else (topiarylaw12_LexerTexts.l0 k t368 t367 bt370.1 bt370.2 bt374.1 bt374.2 false 0)) else (if t367 = true then (if bt370.2 = 15 then (some (bt374.2 == 15)) else (some false)) else (some false))))) else (none)) else (none))) = some r := H
  have A4 := Aside0.mk A40
  clear A40
  replace H := Option.bind_eq_some_iff.mp H
  obtain ⟨⟨t370, t371⟩, A50, H⟩ := H
  replace H : (if 9 + t368.size ≤ 9223372036854775807 then (if ((⟨#[60, 33, 91, 67, 68, 65, 84, 65, 91]⟩ : ByteArray) ++ t368).size + 3 ≤ 9223372036854775807 then ((lexer_Lex.f (((⟨#[60, 33, 91, 67, 68, 65, 84, 65, 91]⟩ : ByteArray) ++ t368) ++ (⟨#[93, 93, 62]⟩ : ByteArray))).bind fun bt374 => ((topiaryref11_Valid.f k t368).bind fun t378 => (if t378 = true then (if t368.toList = ([] : List UInt8) then (if t367 = true then (if t371 = 0 then (if (t370.length : Int) = 0 then (if bt374.2 = 0 then (if (bt374.1.length : Int) = 1 then (if 0 < (bt374.1.length : Int) then (some (((rd_T46 bt374.1 0).f4).toList == ([] : List UInt8))) else (none)) else (some false)) else (some false)) else (some false)) else (some false)) else (some false)) else (topiarylaw12_LexerTexts.l0 k t368 t367 t370 t371 bt374.1 bt374.2 false 0)) else (if t367 = true then (if t371 = 15 then (some (bt374.2 == 15)) else (some false)) else (some false))))) else (none)) else (none)) = some r := H
  have A5 := Aside0.mk A50
  clear A50
  by_cases c6 : 9 + t368.size ≤ 9223372036854775807
  · rw [if_pos c6] at H
    have c6b0 := eq_true c6
    have c6b1 : decide (9 + t368.size ≤ 9223372036854775807) = true := decide_eq_true c6
    try have c6b2 : (9223372036854775807 < 9 + t368.size) = False := eq_false (Nat.not_lt.2 c6)
    by_cases c7 : ((⟨#[60, 33, 91, 67, 68, 65, 84, 65, 91]⟩ : ByteArray) ++ t368).size + 3 ≤ 9223372036854775807
    · rw [if_pos c7] at H
      have c7b0 := eq_true c7
      have c7b1 : decide (((⟨#[60, 33, 91, 67, 68, 65, 84, 65, 91]⟩ : ByteArray) ++ t368).size + 3 ≤ 9223372036854775807) = true := decide_eq_true c7
      try have c7b2 : (9223372036854775807 < ((⟨#[60, 33, 91, 67, 68, 65, 84, 65, 91]⟩ : ByteArray) ++ t368).size + 3) = False := eq_false (Nat.not_lt.2 c7)
      have c7z : 9 + t368.size + 3 ≤ 9223372036854775807 := by have z_ := c7; rw [ByteArray.size_append] at z_; exact z_
      have c7zb0 := eq_true c7z
      have c7zb1 : decide (9 + t368.size + 3 ≤ 9223372036854775807) = true := decide_eq_true c7z
      have c7zb2 : (9223372036854775807 < 9 + t368.size + 3) = False := eq_false (Nat.not_lt.2 c7z)
      have c7zw2 : wrap64 ((t368.size : Int) + 2) = (t368.size : Int) + 2 := by unfold wrap64; omega
      replace H := Option.bind_eq_some_iff.mp H
      obtain ⟨⟨t374, t375⟩, A80, H⟩ := H
      replace H : ((topiaryref11_Valid.f k t368).bind fun t378 => (if t378 = true then (if t368.toList = ([] : List UInt8) then (if t367 = true then (if t371 = 0 then (if (t370.length : Int) = 0 then (if t375 = 0 then (if (t374.length : Int) = 1 then (if 0 < (t374.length : Int) then (some (((rd_T46 t374 0).f4).toList == ([] : List UInt8))) else (none)) else (some false)) else (some false)) else (some false)) else (some false)) else (some false)) else (topiarylaw12_LexerTexts.l0 k t368 t367 t370 t371 t374 t375 false 0)) else (if t367 = true then (if t371 = 15 then (some (t375 == 15)) else (some false)) else (some false)))) = some r := H
      have A8 := Aside0.mk A80
      clear A80
      replace H := Option.bind_eq_some_iff.mp H
      obtain ⟨t378, A90, H⟩ := H
      replace H : (if t378 = true then (if t368.toList = ([] : List UInt8) then (if t367 = true then (if t371 = 0 then (if (t370.length : Int) = 0 then (if t375 = 0 then (if (t374.length : Int) = 1 then (if 0 < (t374.length : Int) then (some (((rd_T46 t374 0).f4).toList == ([] : List UInt8))) else (none)) else (some false)) else (some false)) else (some false)) else (some false)) else (some false)) else (topiarylaw12_LexerTexts.l0 k t368 t367 t370 t371 t374 t375 false 0)) else (if t367 = true then (if t371 = 15 then (some (t375 == 15)) else (some false)) else (some false))) = some r := H
      have A9 := Aside0.mk A90
      clear A90
      by_cases c10 : t378 = true
      · subst c10
        have H1 : (if t368.toList = ([] : List UInt8) then (if t367 = true then (if t371 = 0 then (if (t370.length : Int) = 0 then (if t375 = 0 then (if (t374.length : Int) = 1 then (if 0 < (t374.length : Int) then (some (((rd_T46 t374 0).f4).toList == ([] : List UInt8))) else (none)) else (some false)) else (some false)) else (some false)) else (some false)) else (some false)) else (topiarylaw12_LexerTexts.l0 k t368 t367 t370 t371 t374 t375 false 0)) = some r := by rw [if_pos rfl] at H; exact H
        clear H
        have H := H1
        clear H1
        by_cases c11 : t368.toList = ([] : List UInt8)
        · rw [if_pos c11] at H
          have c11b0 : (t368.toList == ([] : List UInt8)) = true := beq_iff_eq.mpr c11
          have c11b1 : (t368.toList != ([] : List UInt8)) = false := bne_eq_false_iff_eq.mpr c11
          clear c11
          by_cases c12 : t367 = true
          · subst c12
            have H1 : (if t371 = 0 then (if (t370.length : Int) = 0 then (if t375 = 0 then (if (t374.length : Int) = 1 then (if 0 < (t374.length : Int) then (some (((rd_T46 t374 0).f4).toList == ([] : List UInt8))) else (none)) else (some false)) else (some false)) else (some false)) else (some false)) = some r := by rw [if_pos rfl] at H; exact H
            clear H
            have H := H1
            clear H1
            by_cases c13 : t371 = 0
            · rw [if_pos c13] at H
              have c13b0 : (t371 == 0) = true := beq_iff_eq.mpr c13
              have c13b1 : (t371 != 0) = false := bne_eq_false_iff_eq.mpr c13
              clear c13
              by_cases c14 : (t370.length : Int) = 0
              · rw [if_pos c14] at H
                have c14b0 : ((t370.length : Int) == 0) = true := beq_iff_eq.mpr c14
                have c14b1 : ((t370.length : Int) != 0) = false := bne_eq_false_iff_eq.mpr c14
                clear c14
                by_cases c15 : t375 = 0
                · rw [if_pos c15] at H
                  have c15b0 : (t375 == 0) = true := beq_iff_eq.mpr c15
                  have c15b1 : (t375 != 0) = false := bne_eq_false_iff_eq.mpr c15
                  clear c15
                  by_cases c16 : (t374.length : Int) = 1
                  · rw [if_pos c16] at H
                    have c16b0 : ((t374.length : Int) == 1) = true := beq_iff_eq.mpr c16
                    have c16b1 : ((t374.length : Int) != 1) = false := bne_eq_false_iff_eq.mpr c16
                    clear c16
                    by_cases c17 : 0 < (t374.length : Int)
                    · rw [if_pos c17] at H
                      have c17b0 : decide (0 < (t374.length : Int)) = true := decide_eq_true c17
                      have c17b1 : decide (0 < t374.length) = true := decide_eq_true (by omega)
                      clear c17
                      obtain rfl := Option.some.inj H
                      go_enter Try.func14, Try.ntmps14
                      go_wp2_with (first | ((with_reducible refine gate_callee (f := 37) rfl ?_); refine goesL_ (some 11) rfl rfl Try.func37 (by kernel_rfl) rfl #[] rfl (by (try simp only [List.map_toArray, List.map_cons, List.map_nil]); first | done | rfl | (simp only [List.length_drop, List.length_take]; rfl)) ?_; (with_reducible refine (topiarylaw12_awake.calls  true _ (by first | exact hG | exact G.below hG (by repeat (first | (with_reducible first | exact HB.out | apply below_alloc | apply pw_below_drewN | apply below_drew1) | exact HB.out))) A2.out).mono ?_); rintro e w18 ⟨rfl, hb⟩; refine ⟨_, rfl, ?_⟩; have n0_ := Aside0.mk (below_step (by repeat (first | (with_reducible first | exact HB.out | apply below_alloc | apply pw_below_drewN | apply below_drew1) | exact HB.out)) hb); clear HB; have HB := n0_; clear n0_; (try clear hb); (try clear hb2); (try clear hk); (try clear hi)) | ((with_reducible refine gate_callee (f := 38) rfl ?_); refine goesL_ (some 13) rfl rfl Try.func38 (by kernel_rfl) rfl #[.string a0, .int .i64 40] rfl (by (try simp only [List.map_toArray, List.map_cons, List.map_nil]); first | done | rfl | (simp only [List.length_drop, List.length_take]; rfl)) ?_; (with_reducible refine (topiarylaw12_short.calls a0 40 t368 _ A3.out).mono ?_); rintro e w' ⟨rfl, ⟨nd, rfl⟩⟩; refine ⟨_, rfl, ?_⟩) | ((with_reducible refine gate_callee (f := 21) rfl ?_); refine goesL_ (some 16) rfl rfl Try.func21 (by kernel_rfl) rfl #[.string t368] rfl (by (try simp only [List.map_toArray, List.map_cons, List.map_nil]); first | done | rfl | (simp only [List.length_drop, List.length_take]; rfl)) ?_; (with_reducible refine (topiaryref11_Escape.calls k t368 t369 _ A4.out).mono ?_); rintro e w' ⟨rfl, ⟨nd, rfl⟩⟩; refine ⟨_, rfl, ?_⟩) | ((with_reducible refine gate_callee (f := 39) rfl ?_); refine goesL_ (some 17) rfl rfl Try.func39 (by kernel_rfl) rfl #[.string t369] rfl (by (try simp only [List.map_toArray, List.map_cons, List.map_nil]); first | done | rfl | (simp only [List.length_drop, List.length_take]; rfl)) ?_; (with_reducible refine (lexer_Lex.calls t369 t370 t371 _ (by first | exact hG | exact G.below hG (by repeat (first | (with_reducible first | exact HB.out | apply below_alloc | apply pw_below_drewN | apply below_drew1) | exact HB.out))) A5.out).mono ?_); rintro e w19 ⟨v372, rfl, ho0, hb⟩; refine ⟨_, rfl, ?_⟩; have n0_ := Aside0.mk (Kd.R_lower ho0 (below_size (by repeat (first | (with_reducible first | exact HB.out | apply below_alloc | apply pw_below_drewN | apply below_drew1) | exact HB.out)))); have n1_ := Aside0.mk (below_step (by repeat (first | (with_reducible first | exact HB.out | apply below_alloc | apply pw_below_drewN | apply below_drew1) | exact HB.out)) hb); clear HB; have HO373 := n0_; have HB := n1_; clear n0_ n1_; (try clear hb); (try clear hb2); (try clear hk); (try clear hi); (try clear ho0)) | ((with_reducible refine gate_callee (f := 39) rfl ?_); refine goesL_ (some 24) rfl rfl Try.func39 (by kernel_rfl) rfl #[.string (((⟨#[60, 33, 91, 67, 68, 65, 84, 65, 91]⟩ : ByteArray) ++ t368) ++ (⟨#[93, 93, 62]⟩ : ByteArray))] rfl (by (try simp only [List.map_toArray, List.map_cons, List.map_nil]); first | done | rfl | (simp only [List.length_drop, List.length_take]; rfl)) ?_; (with_reducible refine (lexer_Lex.calls (((⟨#[60, 33, 91, 67, 68, 65, 84, 65, 91]⟩ : ByteArray) ++ t368) ++ (⟨#[93, 93, 62]⟩ : ByteArray)) t374 t375 _ (by first | exact hG | exact G.below hG (by repeat (first | (with_reducible first | exact HB.out | apply below_alloc | apply pw_below_drewN | apply below_drew1) | exact HB.out))) A8.out).mono ?_); rintro e w20 ⟨v376, rfl, ho0, hb⟩; refine ⟨_, rfl, ?_⟩; have n0_ := Aside0.mk (Kd.R_elder' (by (with_reducible repeat (first | apply Kd.R_alloc | apply Kd.R_drewN | apply Kd.R_drew)); exact HO373.out) (Kd.R_base ho0) hb); have n1_ := Aside0.mk (Kd.R_lower (Kd.R_new' ho0 (Kd.R_lt (by (with_reducible repeat (first | apply Kd.R_alloc | apply Kd.R_drewN | apply Kd.R_drew)); exact HO373.out))) (below_size (by repeat (first | (with_reducible first | exact HB.out | apply below_alloc | apply pw_below_drewN | apply below_drew1) | exact HB.out)))); have n2_ := Aside0.mk (below_step (by repeat (first | (with_reducible first | exact HB.out | apply below_alloc | apply pw_below_drewN | apply below_drew1) | exact HB.out)) hb); clear HO373; clear HB; have HO373 := n0_; have HO377 := n1_; have HB := n2_; clear n0_ n1_ n2_; (try clear hb); (try clear hb2); (try clear hk); (try clear hi); (try clear ho0)) | ((with_reducible refine gate_callee (f := 29) rfl ?_); refine goesL_ (some 28) rfl rfl Try.func29 (by kernel_rfl) rfl #[.string t368] rfl (by (try simp only [List.map_toArray, List.map_cons, List.map_nil]); first | done | rfl | (simp only [List.length_drop, List.length_take]; rfl)) ?_; (with_reducible refine (topiaryref11_Valid.calls k t368 true _ A9.out).mono ?_); rintro e w21 ⟨rfl, hb⟩; refine ⟨_, rfl, ?_⟩; have n0_ := Aside0.mk (Kd.R_below (by (with_reducible repeat (first | apply Kd.R_alloc | apply Kd.R_drewN | apply Kd.R_drew)); exact HO373.out) hb); have n1_ := Aside0.mk (Kd.R_below (by (with_reducible repeat (first | apply Kd.R_alloc | apply Kd.R_drewN | apply Kd.R_drew)); exact HO377.out) hb); have n2_ := Aside0.mk (below_step (by repeat (first | (with_reducible first | exact HB.out | apply below_alloc | apply pw_below_drewN | apply below_drew1) | exact HB.out)) hb); clear HO373; clear HO377; clear HB; have HO373 := n0_; have HO377 := n1_; have HB := n2_; clear n0_ n1_ n2_; (try clear hb); (try clear hb2); (try clear hk); (try clear hi); obtain ⟨Ao22, co22, eo22⟩ := Kd.R_slice HO373.out; subst eo22; obtain ⟨Ao23, co23, eo23⟩ := Kd.R_slice HO377.out; subst eo23; have p379 : 0 ≤ (0 : Int) := (by omega); have q379 : 0 < (t374.length : Int) := of_decide_eq_true (by first | (with_reducible assumption) | assumption); obtain ⟨ad379, e379, hx379_0, hx379_1, hx379_2, hx379_3, hx379_4⟩ := at_T46 (Kd.R_reads' HO377.out).2.2 0 p379 q379; cases e379; have qi379 : (0 < t374.length) = True := eq_true (by omega); (try rw [show ((0 : Int)).toNat = 0 from rfl] at hx379_0); (try rw [show 0 * 5 = 0 from rfl] at hx379_0); (try rw [Addr.add_zero'] at hx379_0); (try rw [show ((0 : Int)).toNat = 0 from rfl] at hx379_1); (try rw [show 0 * 5 = 0 from rfl] at hx379_1); (try rw [Addr.add_zero'] at hx379_1); (try rw [show ((0 : Int)).toNat = 0 from rfl] at hx379_2); (try rw [show 0 * 5 = 0 from rfl] at hx379_2); (try rw [Addr.add_zero'] at hx379_2); (try rw [show ((0 : Int)).toNat = 0 from rfl] at hx379_3); (try rw [show 0 * 5 = 0 from rfl] at hx379_3); (try rw [Addr.add_zero'] at hx379_3); (try rw [show ((0 : Int)).toNat = 0 from rfl] at hx379_4); (try rw [show 0 * 5 = 0 from rfl] at hx379_4); (try rw [Addr.add_zero'] at hx379_4); replace p379 := eq_true p379; replace q379 := eq_true q379))
                      go_ret
                      exact ⟨by first | rfl | (simp [errW_none, errW_some] <;> rfl) | (simp [*, errW_none, errW_some] <;> rfl), by repeat (first | (with_reducible first | exact HB.out | apply below_alloc | apply pw_below_drewN | apply below_drew1) | exact HB.out)⟩
                    · rw [if_neg c17] at H
                      exact absurd H (by simp)
                  · rw [if_neg c16] at H
                    have c16b0 : ((t374.length : Int) == 1) = false := beq_eq_false_iff_ne.mpr c16
                    have c16b1 : ((t374.length : Int) != 1) = true := bne_iff_ne.mpr c16
                    obtain rfl := Option.some.inj H
                    go_enter Try.func14, Try.ntmps14
                    go_wp2_with (first | ((with_reducible refine gate_callee (f := 37) rfl ?_); refine goesL_ (some 11) rfl rfl Try.func37 (by kernel_rfl) rfl #[] rfl (by (try simp only [List.map_toArray, List.map_cons, List.map_nil]); first | done | rfl | (simp only [List.length_drop, List.length_take]; rfl)) ?_; (with_reducible refine (topiarylaw12_awake.calls  true _ (by first | exact hG | exact G.below hG (by repeat (first | (with_reducible first | exact HB.out | apply below_alloc | apply pw_below_drewN | apply below_drew1) | exact HB.out))) A2.out).mono ?_); rintro e w24 ⟨rfl, hb⟩; refine ⟨_, rfl, ?_⟩; have n0_ := Aside0.mk (below_step (by repeat (first | (with_reducible first | exact HB.out | apply below_alloc | apply pw_below_drewN | apply below_drew1) | exact HB.out)) hb); clear HB; have HB := n0_; clear n0_; (try clear hb); (try clear hb2); (try clear hk); (try clear hi)) | ((with_reducible refine gate_callee (f := 38) rfl ?_); refine goesL_ (some 13) rfl rfl Try.func38 (by kernel_rfl) rfl #[.string a0, .int .i64 40] rfl (by (try simp only [List.map_toArray, List.map_cons, List.map_nil]); first | done | rfl | (simp only [List.length_drop, List.length_take]; rfl)) ?_; (with_reducible refine (topiarylaw12_short.calls a0 40 t368 _ A3.out).mono ?_); rintro e w' ⟨rfl, ⟨nd, rfl⟩⟩; refine ⟨_, rfl, ?_⟩) | ((with_reducible refine gate_callee (f := 21) rfl ?_); refine goesL_ (some 16) rfl rfl Try.func21 (by kernel_rfl) rfl #[.string t368] rfl (by (try simp only [List.map_toArray, List.map_cons, List.map_nil]); first | done | rfl | (simp only [List.length_drop, List.length_take]; rfl)) ?_; (with_reducible refine (topiaryref11_Escape.calls k t368 t369 _ A4.out).mono ?_); rintro e w' ⟨rfl, ⟨nd, rfl⟩⟩; refine ⟨_, rfl, ?_⟩) | ((with_reducible refine gate_callee (f := 39) rfl ?_); refine goesL_ (some 17) rfl rfl Try.func39 (by kernel_rfl) rfl #[.string t369] rfl (by (try simp only [List.map_toArray, List.map_cons, List.map_nil]); first | done | rfl | (simp only [List.length_drop, List.length_take]; rfl)) ?_; (with_reducible refine (lexer_Lex.calls t369 t370 t371 _ (by first | exact hG | exact G.below hG (by repeat (first | (with_reducible first | exact HB.out | apply below_alloc | apply pw_below_drewN | apply below_drew1) | exact HB.out))) A5.out).mono ?_); rintro e w25 ⟨v372, rfl, ho0, hb⟩; refine ⟨_, rfl, ?_⟩; have n0_ := Aside0.mk (Kd.R_lower ho0 (below_size (by repeat (first | (with_reducible first | exact HB.out | apply below_alloc | apply pw_below_drewN | apply below_drew1) | exact HB.out)))); have n1_ := Aside0.mk (below_step (by repeat (first | (with_reducible first | exact HB.out | apply below_alloc | apply pw_below_drewN | apply below_drew1) | exact HB.out)) hb); clear HB; have HO373 := n0_; have HB := n1_; clear n0_ n1_; (try clear hb); (try clear hb2); (try clear hk); (try clear hi); (try clear ho0)) | ((with_reducible refine gate_callee (f := 39) rfl ?_); refine goesL_ (some 24) rfl rfl Try.func39 (by kernel_rfl) rfl #[.string (((⟨#[60, 33, 91, 67, 68, 65, 84, 65, 91]⟩ : ByteArray) ++ t368) ++ (⟨#[93, 93, 62]⟩ : ByteArray))] rfl (by (try simp only [List.map_toArray, List.map_cons, List.map_nil]); first | done | rfl | (simp only [List.length_drop, List.length_take]; rfl)) ?_; (with_reducible refine (lexer_Lex.calls (((⟨#[60, 33, 91, 67, 68, 65, 84, 65, 91]⟩ : ByteArray) ++ t368) ++ (⟨#[93, 93, 62]⟩ : ByteArray)) t374 t375 _ (by first | exact hG | exact G.below hG (by repeat (first | (with_reducible first | exact HB.out | apply below_alloc | apply pw_below_drewN | apply below_drew1) | exact HB.out))) A8.out).mono ?_); rintro e w26 ⟨v376, rfl, ho0, hb⟩; refine ⟨_, rfl, ?_⟩; have n0_ := Aside0.mk (Kd.R_elder' (by (with_reducible repeat (first | apply Kd.R_alloc | apply Kd.R_drewN | apply Kd.R_drew)); exact HO373.out) (Kd.R_base ho0) hb); have n1_ := Aside0.mk (Kd.R_lower (Kd.R_new' ho0 (Kd.R_lt (by (with_reducible repeat (first | apply Kd.R_alloc | apply Kd.R_drewN | apply Kd.R_drew)); exact HO373.out))) (below_size (by repeat (first | (with_reducible first | exact HB.out | apply below_alloc | apply pw_below_drewN | apply below_drew1) | exact HB.out)))); have n2_ := Aside0.mk (below_step (by repeat (first | (with_reducible first | exact HB.out | apply below_alloc | apply pw_below_drewN | apply below_drew1) | exact HB.out)) hb); clear HO373; clear HB; have HO373 := n0_; have HO377 := n1_; have HB := n2_; clear n0_ n1_ n2_; (try clear hb); (try clear hb2); (try clear hk); (try clear hi); (try clear ho0)) | ((with_reducible refine gate_callee (f := 29) rfl ?_); refine goesL_ (some 28) rfl rfl Try.func29 (by kernel_rfl) rfl #[.string t368] rfl (by (try simp only [List.map_toArray, List.map_cons, List.map_nil]); first | done | rfl | (simp only [List.length_drop, List.length_take]; rfl)) ?_; (with_reducible refine (topiaryref11_Valid.calls k t368 true _ A9.out).mono ?_); rintro e w27 ⟨rfl, hb⟩; refine ⟨_, rfl, ?_⟩; have n0_ := Aside0.mk (Kd.R_below (by (with_reducible repeat (first | apply Kd.R_alloc | apply Kd.R_drewN | apply Kd.R_drew)); exact HO373.out) hb); have n1_ := Aside0.mk (Kd.R_below (by (with_reducible repeat (first | apply Kd.R_alloc | apply Kd.R_drewN | apply Kd.R_drew)); exact HO377.out) hb); have n2_ := Aside0.mk (below_step (by repeat (first | (with_reducible first | exact HB.out | apply below_alloc | apply pw_below_drewN | apply below_drew1) | exact HB.out)) hb); clear HO373; clear HO377; clear HB; have HO373 := n0_; have HO377 := n1_; have HB := n2_; clear n0_ n1_ n2_; (try clear hb); (try clear hb2); (try clear hk); (try clear hi); obtain ⟨Ao28, co28, eo28⟩ := Kd.R_slice HO373.out; subst eo28; obtain ⟨Ao29, co29, eo29⟩ := Kd.R_slice HO377.out; subst eo29))
                    go_ret
                    exact ⟨by first | rfl | (simp [errW_none, errW_some] <;> rfl) | (simp [*, errW_none, errW_some] <;> rfl), by repeat (first | (with_reducible first | exact HB.out | apply below_alloc | apply pw_below_drewN | apply below_drew1) | exact HB.out)⟩
                · rw [if_neg c15] at H
                  have c15b0 : (t375 == 0) = false := beq_eq_false_iff_ne.mpr c15
                  have c15b1 : (t375 != 0) = true := bne_iff_ne.mpr c15
                  obtain rfl := Option.some.inj H
                  go_enter Try.func14, Try.ntmps14
                  go_wp2_with (first | ((with_reducible refine gate_callee (f := 37) rfl ?_); refine goesL_ (some 11) rfl rfl Try.func37 (by kernel_rfl) rfl #[] rfl (by (try simp only [List.map_toArray, List.map_cons, List.map_nil]); first | done | rfl | (simp only [List.length_drop, List.length_take]; rfl)) ?_; (with_reducible refine (topiarylaw12_awake.calls  true _ (by first | exact hG | exact G.below hG (by repeat (first | (with_reducible first | exact HB.out | apply below_alloc | apply pw_below_drewN | apply below_drew1) | exact HB.out))) A2.out).mono ?_); rintro e w30 ⟨rfl, hb⟩; refine ⟨_, rfl, ?_⟩; have n0_ := Aside0.mk (below_step (by repeat (first | (with_reducible first | exact HB.out | apply below_alloc | apply pw_below_drewN | apply below_drew1) | exact HB.out)) hb); clear HB; have HB := n0_; clear n0_; (try clear hb); (try clear hb2); (try clear hk); (try clear hi)) | ((with_reducible refine gate_callee (f := 38) rfl ?_); refine goesL_ (some 13) rfl rfl Try.func38 (by kernel_rfl) rfl #[.string a0, .int .i64 40] rfl (by (try simp only [List.map_toArray, List.map_cons, List.map_nil]); first | done | rfl | (simp only [List.length_drop, List.length_take]; rfl)) ?_; (with_reducible refine (topiarylaw12_short.calls a0 40 t368 _ A3.out).mono ?_); rintro e w' ⟨rfl, ⟨nd, rfl⟩⟩; refine ⟨_, rfl, ?_⟩) | ((with_reducible refine gate_callee (f := 21) rfl ?_); refine goesL_ (some 16) rfl rfl Try.func21 (by kernel_rfl) rfl #[.string t368] rfl (by (try simp only [List.map_toArray, List.map_cons, List.map_nil]); first | done | rfl | (simp only [List.length_drop, List.length_take]; rfl)) ?_; (with_reducible refine (topiaryref11_Escape.calls k t368 t369 _ A4.out).mono ?_); rintro e w' ⟨rfl, ⟨nd, rfl⟩⟩; refine ⟨_, rfl, ?_⟩) | ((with_reducible refine gate_callee (f := 39) rfl ?_); refine goesL_ (some 17) rfl rfl Try.func39 (by kernel_rfl) rfl #[.string t369] rfl (by (try simp only [List.map_toArray, List.map_cons, List.map_nil]); first | done | rfl | (simp only [List.length_drop, List.length_take]; rfl)) ?_; (with_reducible refine (lexer_Lex.calls t369 t370 t371 _ (by first | exact hG | exact G.below hG (by repeat (first | (with_reducible first | exact HB.out | apply below_alloc | apply pw_below_drewN | apply below_drew1) | exact HB.out))) A5.out).mono ?_); rintro e w31 ⟨v372, rfl, ho0, hb⟩; refine ⟨_, rfl, ?_⟩; have n0_ := Aside0.mk (Kd.R_lower ho0 (below_size (by repeat (first | (with_reducible first | exact HB.out | apply below_alloc | apply pw_below_drewN | apply below_drew1) | exact HB.out)))); have n1_ := Aside0.mk (below_step (by repeat (first | (with_reducible first | exact HB.out | apply below_alloc | apply pw_below_drewN | apply below_drew1) | exact HB.out)) hb); clear HB; have HO373 := n0_; have HB := n1_; clear n0_ n1_; (try clear hb); (try clear hb2); (try clear hk); (try clear hi); (try clear ho0)) | ((with_reducible refine gate_callee (f := 39) rfl ?_); refine goesL_ (some 24) rfl rfl Try.func39 (by kernel_rfl) rfl #[.string (((⟨#[60, 33, 91, 67, 68, 65, 84, 65, 91]⟩ : ByteArray) ++ t368) ++ (⟨#[93, 93, 62]⟩ : ByteArray))] rfl (by (try simp only [List.map_toArray, List.map_cons, List.map_nil]); first | done | rfl | (simp only [List.length_drop, List.length_take]; rfl)) ?_; (with_reducible refine (lexer_Lex.calls (((⟨#[60, 33, 91, 67, 68, 65, 84, 65, 91]⟩ : ByteArray) ++ t368) ++ (⟨#[93, 93, 62]⟩ : ByteArray)) t374 t375 _ (by first | exact hG | exact G.below hG (by repeat (first | (with_reducible first | exact HB.out | apply below_alloc | apply pw_below_drewN | apply below_drew1) | exact HB.out))) A8.out).mono ?_); rintro e w32 ⟨v376, rfl, ho0, hb⟩; refine ⟨_, rfl, ?_⟩; have n0_ := Aside0.mk (Kd.R_elder' (by (with_reducible repeat (first | apply Kd.R_alloc | apply Kd.R_drewN | apply Kd.R_drew)); exact HO373.out) (Kd.R_base ho0) hb); have n1_ := Aside0.mk (Kd.R_lower (Kd.R_new' ho0 (Kd.R_lt (by (with_reducible repeat (first | apply Kd.R_alloc | apply Kd.R_drewN | apply Kd.R_drew)); exact HO373.out))) (below_size (by repeat (first | (with_reducible first | exact HB.out | apply below_alloc | apply pw_below_drewN | apply below_drew1) | exact HB.out)))); have n2_ := Aside0.mk (below_step (by repeat (first | (with_reducible first | exact HB.out | apply below_alloc | apply pw_below_drewN | apply below_drew1) | exact HB.out)) hb); clear HO373; clear HB; have HO373 := n0_; have HO377 := n1_; have HB := n2_; clear n0_ n1_ n2_; (try clear hb); (try clear hb2); (try clear hk); (try clear hi); (try clear ho0)) | ((with_reducible refine gate_callee (f := 29) rfl ?_); refine goesL_ (some 28) rfl rfl Try.func29 (by kernel_rfl) rfl #[.string t368] rfl (by (try simp only [List.map_toArray, List.map_cons, List.map_nil]); first | done | rfl | (simp only [List.length_drop, List.length_take]; rfl)) ?_; (with_reducible refine (topiaryref11_Valid.calls k t368 true _ A9.out).mono ?_); rintro e w33 ⟨rfl, hb⟩; refine ⟨_, rfl, ?_⟩; have n0_ := Aside0.mk (Kd.R_below (by (with_reducible repeat (first | apply Kd.R_alloc | apply Kd.R_drewN | apply Kd.R_drew)); exact HO373.out) hb); have n1_ := Aside0.mk (Kd.R_below (by (with_reducible repeat (first | apply Kd.R_alloc | apply Kd.R_drewN | apply Kd.R_drew)); exact HO377.out) hb); have n2_ := Aside0.mk (below_step (by repeat (first | (with_reducible first | exact HB.out | apply below_alloc | apply pw_below_drewN | apply below_drew1) | exact HB.out)) hb); clear HO373; clear HO377; clear HB; have HO373 := n0_; have HO377 := n1_; have HB := n2_; clear n0_ n1_ n2_; (try clear hb); (try clear hb2); (try clear hk); (try clear hi); obtain ⟨Ao34, co34, eo34⟩ := Kd.R_slice HO373.out; subst eo34))
                  go_ret
                  exact ⟨by first | rfl | (simp [errW_none, errW_some] <;> rfl) | (simp [*, errW_none, errW_some] <;> rfl), by repeat (first | (with_reducible first | exact HB.out | apply below_alloc | apply pw_below_drewN | apply below_drew1) | exact HB.out)⟩
              · rw [if_neg c14] at H
                have c14b0 : ((t370.length : Int) == 0) = false := beq_eq_false_iff_ne.mpr c14
                have c14b1 : ((t370.length : Int) != 0) = true := bne_iff_ne.mpr c14
                have c14b2 : ¬ (t370 = []) := fun h_ => c14 (by rw [h_]; rfl)
                obtain rfl := Option.some.inj H
                go_enter Try.func14, Try.ntmps14
                go_wp2_with (first | ((with_reducible refine gate_callee (f := 37) rfl ?_); refine goesL_ (some 11) rfl rfl Try.func37 (by kernel_rfl) rfl #[] rfl (by (try simp only [List.map_toArray, List.map_cons, List.map_nil]); first | done | rfl | (simp only [List.length_drop, List.length_take]; rfl)) ?_; (with_reducible refine (topiarylaw12_awake.calls  true _ (by first | exact hG | exact G.below hG (by repeat (first | (with_reducible first | exact HB.out | apply below_alloc | apply pw_below_drewN | apply below_drew1) | exact HB.out))) A2.out).mono ?_); rintro e w35 ⟨rfl, hb⟩; refine ⟨_, rfl, ?_⟩; have n0_ := Aside0.mk (below_step (by repeat (first | (with_reducible first | exact HB.out | apply below_alloc | apply pw_below_drewN | apply below_drew1) | exact HB.out)) hb); clear HB; have HB := n0_; clear n0_; (try clear hb); (try clear hb2); (try clear hk); (try clear hi)) | ((with_reducible refine gate_callee (f := 38) rfl ?_); refine goesL_ (some 13) rfl rfl Try.func38 (by kernel_rfl) rfl #[.string a0, .int .i64 40] rfl (by (try simp only [List.map_toArray, List.map_cons, List.map_nil]); first | done | rfl | (simp only [List.length_drop, List.length_take]; rfl)) ?_; (with_reducible refine (topiarylaw12_short.calls a0 40 t368 _ A3.out).mono ?_); rintro e w' ⟨rfl, ⟨nd, rfl⟩⟩; refine ⟨_, rfl, ?_⟩) | ((with_reducible refine gate_callee (f := 21) rfl ?_); refine goesL_ (some 16) rfl rfl Try.func21 (by kernel_rfl) rfl #[.string t368] rfl (by (try simp only [List.map_toArray, List.map_cons, List.map_nil]); first | done | rfl | (simp only [List.length_drop, List.length_take]; rfl)) ?_; (with_reducible refine (topiaryref11_Escape.calls k t368 t369 _ A4.out).mono ?_); rintro e w' ⟨rfl, ⟨nd, rfl⟩⟩; refine ⟨_, rfl, ?_⟩) | ((with_reducible refine gate_callee (f := 39) rfl ?_); refine goesL_ (some 17) rfl rfl Try.func39 (by kernel_rfl) rfl #[.string t369] rfl (by (try simp only [List.map_toArray, List.map_cons, List.map_nil]); first | done | rfl | (simp only [List.length_drop, List.length_take]; rfl)) ?_; (with_reducible refine (lexer_Lex.calls t369 t370 t371 _ (by first | exact hG | exact G.below hG (by repeat (first | (with_reducible first | exact HB.out | apply below_alloc | apply pw_below_drewN | apply below_drew1) | exact HB.out))) A5.out).mono ?_); rintro e w36 ⟨v372, rfl, ho0, hb⟩; refine ⟨_, rfl, ?_⟩; have n0_ := Aside0.mk (Kd.R_lower ho0 (below_size (by repeat (first | (with_reducible first | exact HB.out | apply below_alloc | apply pw_below_drewN | apply below_drew1) | exact HB.out)))); have n1_ := Aside0.mk (below_step (by repeat (first | (with_reducible first | exact HB.out | apply below_alloc | apply pw_below_drewN | apply below_drew1) | exact HB.out)) hb); clear HB; have HO373 := n0_; have HB := n1_; clear n0_ n1_; (try clear hb); (try clear hb2); (try clear hk); (try clear hi); (try clear ho0)) | ((with_reducible refine gate_callee (f := 39) rfl ?_); refine goesL_ (some 24) rfl rfl Try.func39 (by kernel_rfl) rfl #[.string (((⟨#[60, 33, 91, 67, 68, 65, 84, 65, 91]⟩ : ByteArray) ++ t368) ++ (⟨#[93, 93, 62]⟩ : ByteArray))] rfl (by (try simp only [List.map_toArray, List.map_cons, List.map_nil]); first | done | rfl | (simp only [List.length_drop, List.length_take]; rfl)) ?_; (with_reducible refine (lexer_Lex.calls (((⟨#[60, 33, 91, 67, 68, 65, 84, 65, 91]⟩ : ByteArray) ++ t368) ++ (⟨#[93, 93, 62]⟩ : ByteArray)) t374 t375 _ (by first | exact hG | exact G.below hG (by repeat (first | (with_reducible first | exact HB.out | apply below_alloc | apply pw_below_drewN | apply below_drew1) | exact HB.out))) A8.out).mono ?_); rintro e w37 ⟨v376, rfl, ho0, hb⟩; refine ⟨_, rfl, ?_⟩; have n0_ := Aside0.mk (Kd.R_elder' (by (with_reducible repeat (first | apply Kd.R_alloc | apply Kd.R_drewN | apply Kd.R_drew)); exact HO373.out) (Kd.R_base ho0) hb); have n1_ := Aside0.mk (Kd.R_lower (Kd.R_new' ho0 (Kd.R_lt (by (with_reducible repeat (first | apply Kd.R_alloc | apply Kd.R_drewN | apply Kd.R_drew)); exact HO373.out))) (below_size (by repeat (first | (with_reducible first | exact HB.out | apply below_alloc | apply pw_below_drewN | apply below_drew1) | exact HB.out)))); have n2_ := Aside0.mk (below_step (by repeat (first | (with_reducible first | exact HB.out | apply below_alloc | apply pw_below_drewN | apply below_drew1) | exact HB.out)) hb); clear HO373; clear HB; have HO373 := n0_; have HO377 := n1_; have HB := n2_; clear n0_ n1_ n2_; (try clear hb); (try clear hb2); (try clear hk); (try clear hi); (try clear ho0)) | ((with_reducible refine gate_callee (f := 29) rfl ?_); refine goesL_ (some 28) rfl rfl Try.func29 (by kernel_rfl) rfl #[.string t368] rfl (by (try simp only [List.map_toArray, List.map_cons, List.map_nil]); first | done | rfl | (simp only [List.length_drop, List.length_take]; rfl)) ?_; (with_reducible refine (topiaryref11_Valid.calls k t368 true _ A9.out).mono ?_); rintro e w38 ⟨rfl, hb⟩; refine ⟨_, rfl, ?_⟩; have n0_ := Aside0.mk (Kd.R_below (by (with_reducible repeat (first | apply Kd.R_alloc | apply Kd.R_drewN | apply Kd.R_drew)); exact HO373.out) hb); have n1_ := Aside0.mk (Kd.R_below (by (with_reducible repeat (first | apply Kd.R_alloc | apply Kd.R_drewN | apply Kd.R_drew)); exact HO377.out) hb); have n2_ := Aside0.mk (below_step (by repeat (first | (with_reducible first | exact HB.out | apply below_alloc | apply pw_below_drewN | apply below_drew1) | exact HB.out)) hb); clear HO373; clear HO377; clear HB; have HO373 := n0_; have HO377 := n1_; have HB := n2_; clear n0_ n1_ n2_; (try clear hb); (try clear hb2); (try clear hk); (try clear hi); obtain ⟨Ao39, co39, eo39⟩ := Kd.R_slice HO373.out; subst eo39))
                go_ret
                exact ⟨by first | rfl | (simp [errW_none, errW_some] <;> rfl) | (simp [*, errW_none, errW_some] <;> rfl), by repeat (first | (with_reducible first | exact HB.out | apply below_alloc | apply pw_below_drewN | apply below_drew1) | exact HB.out)⟩
            · rw [if_neg c13] at H
              have c13b0 : (t371 == 0) = false := beq_eq_false_iff_ne.mpr c13
              have c13b1 : (t371 != 0) = true := bne_iff_ne.mpr c13
              obtain rfl := Option.some.inj H
              go_enter Try.func14, Try.ntmps14
              go_wp2_with (first | ((with_reducible refine gate_callee (f := 37) rfl ?_); refine goesL_ (some 11) rfl rfl Try.func37 (by kernel_rfl) rfl #[] rfl (by (try simp only [List.map_toArray, List.map_cons, List.map_nil]); first | done | rfl | (simp only [List.length_drop, List.length_take]; rfl)) ?_; (with_reducible refine (topiarylaw12_awake.calls  true _ (by first | exact hG | exact G.below hG (by repeat (first | (with_reducible first | exact HB.out | apply below_alloc | apply pw_below_drewN | apply below_drew1) | exact HB.out))) A2.out).mono ?_); rintro e w40 ⟨rfl, hb⟩; refine ⟨_, rfl, ?_⟩; have n0_ := Aside0.mk (below_step (by repeat (first | (with_reducible first | exact HB.out | apply below_alloc | apply pw_below_drewN | apply below_drew1) | exact HB.out)) hb); clear HB; have HB := n0_; clear n0_; (try clear hb); (try clear hb2); (try clear hk); (try clear hi)) | ((with_reducible refine gate_callee (f := 38) rfl ?_); refine goesL_ (some 13) rfl rfl Try.func38 (by kernel_rfl) rfl #[.string a0, .int .i64 40] rfl (by (try simp only [List.map_toArray, List.map_cons, List.map_nil]); first | done | rfl | (simp only [List.length_drop, List.length_take]; rfl)) ?_; (with_reducible refine (topiarylaw12_short.calls a0 40 t368 _ A3.out).mono ?_); rintro e w' ⟨rfl, ⟨nd, rfl⟩⟩; refine ⟨_, rfl, ?_⟩) | ((with_reducible refine gate_callee (f := 21) rfl ?_); refine goesL_ (some 16) rfl rfl Try.func21 (by kernel_rfl) rfl #[.string t368] rfl (by (try simp only [List.map_toArray, List.map_cons, List.map_nil]); first | done | rfl | (simp only [List.length_drop, List.length_take]; rfl)) ?_; (with_reducible refine (topiaryref11_Escape.calls k t368 t369 _ A4.out).mono ?_); rintro e w' ⟨rfl, ⟨nd, rfl⟩⟩; refine ⟨_, rfl, ?_⟩) | ((with_reducible refine gate_callee (f := 39) rfl ?_); refine goesL_ (some 17) rfl rfl Try.func39 (by kernel_rfl) rfl #[.string t369] rfl (by (try simp only [List.map_toArray, List.map_cons, List.map_nil]); first | done | rfl | (simp only [List.length_drop, List.length_take]; rfl)) ?_; (with_reducible refine (lexer_Lex.calls t369 t370 t371 _ (by first | exact hG | exact G.below hG (by repeat (first | (with_reducible first | exact HB.out | apply below_alloc | apply pw_below_drewN | apply below_drew1) | exact HB.out))) A5.out).mono ?_); rintro e w41 ⟨v372, rfl, ho0, hb⟩; refine ⟨_, rfl, ?_⟩; have n0_ := Aside0.mk (Kd.R_lower ho0 (below_size (by repeat (first | (with_reducible first | exact HB.out | apply below_alloc | apply pw_below_drewN | apply below_drew1) | exact HB.out)))); have n1_ := Aside0.mk (below_step (by repeat (first | (with_reducible first | exact HB.out | apply below_alloc | apply pw_below_drewN | apply below_drew1) | exact HB.out)) hb); clear HB; have HO373 := n0_; have HB := n1_; clear n0_ n1_; (try clear hb); (try clear hb2); (try clear hk); (try clear hi); (try clear ho0)) | ((with_reducible refine gate_callee (f := 39) rfl ?_); refine goesL_ (some 24) rfl rfl Try.func39 (by kernel_rfl) rfl #[.string (((⟨#[60, 33, 91, 67, 68, 65, 84, 65, 91]⟩ : ByteArray) ++ t368) ++ (⟨#[93, 93, 62]⟩ : ByteArray))] rfl (by (try simp only [List.map_toArray, List.map_cons, List.map_nil]); first | done | rfl | (simp only [List.length_drop, List.length_take]; rfl)) ?_; (with_reducible refine (lexer_Lex.calls (((⟨#[60, 33, 91, 67, 68, 65, 84, 65, 91]⟩ : ByteArray) ++ t368) ++ (⟨#[93, 93, 62]⟩ : ByteArray)) t374 t375 _ (by first | exact hG | exact G.below hG (by repeat (first | (with_reducible first | exact HB.out | apply below_alloc | apply pw_below_drewN | apply below_drew1) | exact HB.out))) A8.out).mono ?_); rintro e w42 ⟨v376, rfl, ho0, hb⟩; refine ⟨_, rfl, ?_⟩; have n0_ := Aside0.mk (Kd.R_elder' (by (with_reducible repeat (first | apply Kd.R_alloc | apply Kd.R_drewN | apply Kd.R_drew)); exact HO373.out) (Kd.R_base ho0) hb); have n1_ := Aside0.mk (Kd.R_lower (Kd.R_new' ho0 (Kd.R_lt (by (with_reducible repeat (first | apply Kd.R_alloc | apply Kd.R_drewN | apply Kd.R_drew)); exact HO373.out))) (below_size (by repeat (first | (with_reducible first | exact HB.out | apply below_alloc | apply pw_below_drewN | apply below_drew1) | exact HB.out)))); have n2_ := Aside0.mk (below_step (by repeat (first | (with_reducible first | exact HB.out | apply below_alloc | apply pw_below_drewN | apply below_drew1) | exact HB.out)) hb); clear HO373; clear HB; have HO373 := n0_; have HO377 := n1_; have HB := n2_; clear n0_ n1_ n2_; (try clear hb); (try clear hb2); (try clear hk); (try clear hi); (try clear ho0)) | ((with_reducible refine gate_callee (f := 29) rfl ?_); refine goesL_ (some 28) rfl rfl Try.func29 (by kernel_rfl) rfl #[.string t368] rfl (by (try simp only [List.map_toArray, List.map_cons, List.map_nil]); first | done | rfl | (simp only [List.length_drop, List.length_take]; rfl)) ?_; (with_reducible refine (topiaryref11_Valid.calls k t368 true _ A9.out).mono ?_); rintro e w43 ⟨rfl, hb⟩; refine ⟨_, rfl, ?_⟩; have n0_ := Aside0.mk (Kd.R_below (by (with_reducible repeat (first | apply Kd.R_alloc | apply Kd.R_drewN | apply Kd.R_drew)); exact HO373.out) hb); have n1_ := Aside0.mk (Kd.R_below (by (with_reducible repeat (first | apply Kd.R_alloc | apply Kd.R_drewN | apply Kd.R_drew)); exact HO377.out) hb); have n2_ := Aside0.mk (below_step (by repeat (first | (with_reducible first | exact HB.out | apply below_alloc | apply pw_below_drewN | apply below_drew1) | exact HB.out)) hb); clear HO373; clear HO377; clear HB; have HO373 := n0_; have HO377 := n1_; have HB := n2_; clear n0_ n1_ n2_; (try clear hb); (try clear hb2); (try clear hk); (try clear hi)))
              go_ret
              exact ⟨by first | rfl | (simp [errW_none, errW_some] <;> rfl) | (simp [*, errW_none, errW_some] <;> rfl), by repeat (first | (with_reducible first | exact HB.out | apply below_alloc | apply pw_below_drewN | apply below_drew1) | exact HB.out)⟩
          · replace c12 := Bool.eq_false_iff.mpr c12
            subst c12
            have H1 : (some false) = some r := by rw [if_neg (show ¬ (false = true) by decide)] at H; exact H
            clear H
            have H := H1
            clear H1
            obtain rfl := Option.some.inj H
            go_enter Try.func14, Try.ntmps14
            go_wp2_with (first | ((with_reducible refine gate_callee (f := 37) rfl ?_); refine goesL_ (some 11) rfl rfl Try.func37 (by kernel_rfl) rfl #[] rfl (by (try simp only [List.map_toArray, List.map_cons, List.map_nil]); first | done | rfl | (simp only [List.length_drop, List.length_take]; rfl)) ?_; (with_reducible refine (topiarylaw12_awake.calls  false _ (by first | exact hG | exact G.below hG (by repeat (first | (with_reducible first | exact HB.out | apply below_alloc | apply pw_below_drewN | apply below_drew1) | exact HB.out))) A2.out).mono ?_); rintro e w44 ⟨rfl, hb⟩; refine ⟨_, rfl, ?_⟩; have n0_ := Aside0.mk (below_step (by repeat (first | (with_reducible first | exact HB.out | apply below_alloc | apply pw_below_drewN | apply below_drew1) | exact HB.out)) hb); clear HB; have HB := n0_; clear n0_; (try clear hb); (try clear hb2); (try clear hk); (try clear hi)) | ((with_reducible refine gate_callee (f := 38) rfl ?_); refine goesL_ (some 13) rfl rfl Try.func38 (by kernel_rfl) rfl #[.string a0, .int .i64 40] rfl (by (try simp only [List.map_toArray, List.map_cons, List.map_nil]); first | done | rfl | (simp only [List.length_drop, List.length_take]; rfl)) ?_; (with_reducible refine (topiarylaw12_short.calls a0 40 t368 _ A3.out).mono ?_); rintro e w' ⟨rfl, ⟨nd, rfl⟩⟩; refine ⟨_, rfl, ?_⟩) | ((with_reducible refine gate_callee (f := 21) rfl ?_); refine goesL_ (some 16) rfl rfl Try.func21 (by kernel_rfl) rfl #[.string t368] rfl (by (try simp only [List.map_toArray, List.map_cons, List.map_nil]); first | done | rfl | (simp only [List.length_drop, List.length_take]; rfl)) ?_; (with_reducible refine (topiaryref11_Escape.calls k t368 t369 _ A4.out).mono ?_); rintro e w' ⟨rfl, ⟨nd, rfl⟩⟩; refine ⟨_, rfl, ?_⟩) | ((with_reducible refine gate_callee (f := 39) rfl ?_); refine goesL_ (some 17) rfl rfl Try.func39 (by kernel_rfl) rfl #[.string t369] rfl (by (try simp only [List.map_toArray, List.map_cons, List.map_nil]); first | done | rfl | (simp only [List.length_drop, List.length_take]; rfl)) ?_; (with_reducible refine (lexer_Lex.calls t369 t370 t371 _ (by first | exact hG | exact G.below hG (by repeat (first | (with_reducible first | exact HB.out | apply below_alloc | apply pw_below_drewN | apply below_drew1) | exact HB.out))) A5.out).mono ?_); rintro e w45 ⟨v372, rfl, ho0, hb⟩; refine ⟨_, rfl, ?_⟩; have n0_ := Aside0.mk (Kd.R_lower ho0 (below_size (by repeat (first | (with_reducible first | exact HB.out | apply below_alloc | apply pw_below_drewN | apply below_drew1) | exact HB.out)))); have n1_ := Aside0.mk (below_step (by repeat (first | (with_reducible first | exact HB.out | apply below_alloc | apply pw_below_drewN | apply below_drew1) | exact HB.out)) hb); clear HB; have HO373 := n0_; have HB := n1_; clear n0_ n1_; (try clear hb); (try clear hb2); (try clear hk); (try clear hi); (try clear ho0)) | ((with_reducible refine gate_callee (f := 39) rfl ?_); refine goesL_ (some 24) rfl rfl Try.func39 (by kernel_rfl) rfl #[.string (((⟨#[60, 33, 91, 67, 68, 65, 84, 65, 91]⟩ : ByteArray) ++ t368) ++ (⟨#[93, 93, 62]⟩ : ByteArray))] rfl (by (try simp only [List.map_toArray, List.map_cons, List.map_nil]); first | done | rfl | (simp only [List.length_drop, List.length_take]; rfl)) ?_; (with_reducible refine (lexer_Lex.calls (((⟨#[60, 33, 91, 67, 68, 65, 84, 65, 91]⟩ : ByteArray) ++ t368) ++ (⟨#[93, 93, 62]⟩ : ByteArray)) t374 t375 _ (by first | exact hG | exact G.below hG (by repeat (first | (with_reducible first | exact HB.out | apply below_alloc | apply pw_below_drewN | apply below_drew1) | exact HB.out))) A8.out).mono ?_); rintro e w46 ⟨v376, rfl, ho0, hb⟩; refine ⟨_, rfl, ?_⟩; have n0_ := Aside0.mk (Kd.R_elder' (by (with_reducible repeat (first | apply Kd.R_alloc | apply Kd.R_drewN | apply Kd.R_drew)); exact HO373.out) (Kd.R_base ho0) hb); have n1_ := Aside0.mk (Kd.R_lower (Kd.R_new' ho0 (Kd.R_lt (by (with_reducible repeat (first | apply Kd.R_alloc | apply Kd.R_drewN | apply Kd.R_drew)); exact HO373.out))) (below_size (by repeat (first | (with_reducible first | exact HB.out | apply below_alloc | apply pw_below_drewN | apply below_drew1) | exact HB.out)))); have n2_ := Aside0.mk (below_step (by repeat (first | (with_reducible first | exact HB.out | apply below_alloc | apply pw_below_drewN | apply below_drew1) | exact HB.out)) hb); clear HO373; clear HB; have HO373 := n0_; have HO377 := n1_; have HB := n2_; clear n0_ n1_ n2_; (try clear hb); (try clear hb2); (try clear hk); (try clear hi); (try clear ho0)) | ((with_reducible refine gate_callee (f := 29) rfl ?_); refine goesL_ (some 28) rfl rfl Try.func29 (by kernel_rfl) rfl #[.string t368] rfl (by (try simp only [List.map_toArray, List.map_cons, List.map_nil]); first | done | rfl | (simp only [List.length_drop, List.length_take]; rfl)) ?_; (with_reducible refine (topiaryref11_Valid.calls k t368 true _ A9.out).mono ?_); rintro e w47 ⟨rfl, hb⟩; refine ⟨_, rfl, ?_⟩; have n0_ := Aside0.mk (Kd.R_below (by (with_reducible repeat (first | apply Kd.R_alloc | apply Kd.R_drewN | apply Kd.R_drew)); exact HO373.out) hb); have n1_ := Aside0.mk (Kd.R_below (by (with_reducible repeat (first | apply Kd.R_alloc | apply Kd.R_drewN | apply Kd.R_drew)); exact HO377.out) hb); have n2_ := Aside0.mk (below_step (by repeat (first | (with_reducible first | exact HB.out | apply below_alloc | apply pw_below_drewN | apply below_drew1) | exact HB.out)) hb); clear HO373; clear HO377; clear HB; have HO373 := n0_; have HO377 := n1_; have HB := n2_; clear n0_ n1_ n2_; (try clear hb); (try clear hb2); (try clear hk); (try clear hi)))
            go_ret
            exact ⟨by first | rfl | (simp [errW_none, errW_some] <;> rfl) | (simp [*, errW_none, errW_some] <;> rfl), by repeat (first | (with_reducible first | exact HB.out | apply below_alloc | apply pw_below_drewN | apply below_drew1) | exact HB.out)⟩
        · rw [if_neg c11] at H
          have c11b0 : (t368.toList == ([] : List UInt8)) = false := beq_eq_false_iff_ne.mpr c11
          have c11b1 : (t368.toList != ([] : List UInt8)) = true := bne_iff_ne.mpr c11
          have H' := Aside0.mk H
          clear H
          go_enter Try.func14, Try.ntmps14
          go_wp2_with (first | ((with_reducible refine gate_callee (f := 37) rfl ?_); refine goesL_ (some 11) rfl rfl Try.func37 (by kernel_rfl) rfl #[] rfl (by (try simp only [List.map_toArray, List.map_cons, List.map_nil]); first | done | rfl | (simp only [List.length_drop, List.length_take]; rfl)) ?_; (with_reducible refine (topiarylaw12_awake.calls  t367 _ (by first | exact hG | exact G.below hG (by repeat (first | (with_reducible first | exact HB.out | apply below_alloc | apply pw_below_drewN | apply below_drew1) | exact HB.out))) A2.out).mono ?_); rintro e w48 ⟨rfl, hb⟩; refine ⟨_, rfl, ?_⟩; have n0_ := Aside0.mk (below_step (by repeat (first | (with_reducible first | exact HB.out | apply below_alloc | apply pw_below_drewN | apply below_drew1) | exact HB.out)) hb); clear HB; have HB := n0_; clear n0_; (try clear hb); (try clear hb2); (try clear hk); (try clear hi)) | ((with_reducible refine gate_callee (f := 38) rfl ?_); refine goesL_ (some 13) rfl rfl Try.func38 (by kernel_rfl) rfl #[.string a0, .int .i64 40] rfl (by (try simp only [List.map_toArray, List.map_cons, List.map_nil]); first | done | rfl | (simp only [List.length_drop, List.length_take]; rfl)) ?_; (with_reducible refine (topiarylaw12_short.calls a0 40 t368 _ A3.out).mono ?_); rintro e w' ⟨rfl, ⟨nd, rfl⟩⟩; refine ⟨_, rfl, ?_⟩) | ((with_reducible refine gate_callee (f := 21) rfl ?_); refine goesL_ (some 16) rfl rfl Try.func21 (by kernel_rfl) rfl #[.string t368] rfl (by (try simp only [List.map_toArray, List.map_cons, List.map_nil]); first | done | rfl | (simp only [List.length_drop, List.length_take]; rfl)) ?_; (with_reducible refine (topiaryref11_Escape.calls k t368 t369 _ A4.out).mono ?_); rintro e w' ⟨rfl, ⟨nd, rfl⟩⟩; refine ⟨_, rfl, ?_⟩) | ((with_reducible refine gate_callee (f := 39) rfl ?_); refine goesL_ (some 17) rfl rfl Try.func39 (by kernel_rfl) rfl #[.string t369] rfl (by (try simp only [List.map_toArray, List.map_cons, List.map_nil]); first | done | rfl | (simp only [List.length_drop, List.length_take]; rfl)) ?_; (with_reducible refine (lexer_Lex.calls t369 t370 t371 _ (by first | exact hG | exact G.below hG (by repeat (first | (with_reducible first | exact HB.out | apply below_alloc | apply pw_below_drewN | apply below_drew1) | exact HB.out))) A5.out).mono ?_); rintro e w49 ⟨v372, rfl, ho0, hb⟩; refine ⟨_, rfl, ?_⟩; have n0_ := Aside0.mk (Kd.R_lower ho0 (below_size (by repeat (first | (with_reducible first | exact HB.out | apply below_alloc | apply pw_below_drewN | apply below_drew1) | exact HB.out)))); have n1_ := Aside0.mk (below_step (by repeat (first | (with_reducible first | exact HB.out | apply below_alloc | apply pw_below_drewN | apply below_drew1) | exact HB.out)) hb); clear HB; have HO373 := n0_; have HB := n1_; clear n0_ n1_; (try clear hb); (try clear hb2); (try clear hk); (try clear hi); (try clear ho0)) | ((with_reducible refine gate_callee (f := 39) rfl ?_); refine goesL_ (some 24) rfl rfl Try.func39 (by kernel_rfl) rfl #[.string (((⟨#[60, 33, 91, 67, 68, 65, 84, 65, 91]⟩ : ByteArray) ++ t368) ++ (⟨#[93, 93, 62]⟩ : ByteArray))] rfl (by (try simp only [List.map_toArray, List.map_cons, List.map_nil]); first | done | rfl | (simp only [List.length_drop, List.length_take]; rfl)) ?_; (with_reducible refine (lexer_Lex.calls (((⟨#[60, 33, 91, 67, 68, 65, 84, 65, 91]⟩ : ByteArray) ++ t368) ++ (⟨#[93, 93, 62]⟩ : ByteArray)) t374 t375 _ (by first | exact hG | exact G.below hG (by repeat (first | (with_reducible first | exact HB.out | apply below_alloc | apply pw_below_drewN | apply below_drew1) | exact HB.out))) A8.out).mono ?_); rintro e w50 ⟨v376, rfl, ho0, hb⟩; refine ⟨_, rfl, ?_⟩; have n0_ := Aside0.mk (Kd.R_elder' (by (with_reducible repeat (first | apply Kd.R_alloc | apply Kd.R_drewN | apply Kd.R_drew)); exact HO373.out) (Kd.R_base ho0) hb); have n1_ := Aside0.mk (Kd.R_lower (Kd.R_new' ho0 (Kd.R_lt (by (with_reducible repeat (first | apply Kd.R_alloc | apply Kd.R_drewN | apply Kd.R_drew)); exact HO373.out))) (below_size (by repeat (first | (with_reducible first | exact HB.out | apply below_alloc | apply pw_below_drewN | apply below_drew1) | exact HB.out)))); have n2_ := Aside0.mk (below_step (by repeat (first | (with_reducible first | exact HB.out | apply below_alloc | apply pw_below_drewN | apply below_drew1) | exact HB.out)) hb); clear HO373; clear HB; have HO373 := n0_; have HO377 := n1_; have HB := n2_; clear n0_ n1_ n2_; (try clear hb); (try clear hb2); (try clear hk); (try clear hi); (try clear ho0)) | ((with_reducible refine gate_callee (f := 29) rfl ?_); refine goesL_ (some 28) rfl rfl Try.func29 (by kernel_rfl) rfl #[.string t368] rfl (by (try simp only [List.map_toArray, List.map_cons, List.map_nil]); first | done | rfl | (simp only [List.length_drop, List.length_take]; rfl)) ?_; (with_reducible refine (topiaryref11_Valid.calls k t368 true _ A9.out).mono ?_); rintro e w51 ⟨rfl, hb⟩; refine ⟨_, rfl, ?_⟩; have n0_ := Aside0.mk (Kd.R_below (by (with_reducible repeat (first | apply Kd.R_alloc | apply Kd.R_drewN | apply Kd.R_drew)); exact HO373.out) hb); have n1_ := Aside0.mk (Kd.R_below (by (with_reducible repeat (first | apply Kd.R_alloc | apply Kd.R_drewN | apply Kd.R_drew)); exact HO377.out) hb); have n2_ := Aside0.mk (below_step (by repeat (first | (with_reducible first | exact HB.out | apply below_alloc | apply pw_below_drewN | apply below_drew1) | exact HB.out)) hb); clear HO373; clear HO377; clear HB; have HO373 := n0_; have HO377 := n1_; have HB := n2_; clear n0_ n1_ n2_; (try clear hb); (try clear hb2); (try clear hk); (try clear hi)))
          go_loopg [8, 9] k (fun kq v8 v9 w' => ∃ (x8_1 : Bool) (x9_1 : Int), v8 = .bool x8_1 ∧ v9 = .int .i64 x9_1 ∧ Aside0 (topiarylaw12_LexerTexts.l0 kq t368 t367 t370 t371 t374 t375 x8_1 x9_1 = some r) ∧ Aside0 (kq ≤ k) ∧ Aside0 (Kd.R k46 46 w' w.heap.size (fun k_ => some k_ ≠ (v376 : Value).ownBlock) v372 t370) ∧ Aside0 (Kd.R k46 46 w' w.heap.size (fun k_ => some k_ ≠ (v372 : Value).ownBlock) v376 t374) ∧ Aside0 (Below w.heap.size w w'))
          case atStart => exact ⟨(false), (0), (by first | rfl | (simp; done) | (simp [*]; done)), (by first | rfl | (simp; done) | (simp [*]; done)), H', ⟨Nat.le_refl _⟩, ⟨by (with_reducible repeat (first | apply Kd.R_alloc | apply Kd.R_drewN | apply Kd.R_drew)); exact Kd.R_mono HO373.out (fun _ hk => hk.2)⟩, ⟨by (with_reducible repeat (first | apply Kd.R_alloc | apply Kd.R_drewN | apply Kd.R_drew)); exact Kd.R_mono HO377.out (fun _ hk => hk.2)⟩, ⟨by repeat (first | (with_reducible first | exact HB.out | apply below_alloc | apply pw_below_drewN | apply below_drew1) | exact HB.out)⟩⟩
          case round =>
            clear H'
            try clear c1
            try clear c2
            try clear p2
            try clear c3
            try clear p3
            try clear q3
            try clear hx3
            try clear qi3
            try clear c6
            try clear c6b0
            try clear c6b1
            try clear c6b2
            try clear c7
            try clear c7b0
            try clear c7b1
            try clear c7b2
            try clear c10
            try clear c11
            try clear c11b0
            try clear c11b1
            try clear c12
            try clear c13
            try clear c13b0
            try clear c13b1
            try clear c14
            try clear c14b0
            try clear c14b1
            try clear c14b2
            try clear c15
            try clear c15b0
            try clear c15b1
            try clear c16
            try clear c16b0
            try clear c16b1
            try clear c17
            try clear c17b0
            try clear c17b1
            try clear c21
            try clear c29
            try clear c37
            try clear p37
            try clear q37
            try clear hx37
            try clear qi37
            try clear c38
            try clear c39
            try clear hx379_0
            try clear hx379_1
            try clear hx379_2
            try clear hx379_3
            try clear hx379_4
            try clear p379
            try clear q379
            obtain ⟨x8_1, x9_1, rfl, rfl, HA, HK1, HO_4, HO_6, HB⟩ := hrel
            cases gk with
            | zero => exact absurd HA.out (by simp [topiarylaw12_LexerTexts.l0])
            | succ k1 =>
              have H := HA.out
              clear HA
              simp only [topiarylaw12_LexerTexts.l0] at H
              by_cases c52 : (wrap64 (x9_1 + 3)) ≤ (wrap64 ((t368.size : Int) + 2))
              · rw [if_pos c52] at H
                have c52b0 : decide ((wrap64 (x9_1 + 3)) ≤ (wrap64 ((t368.size : Int) + 2))) = true := decide_eq_true c52
                have c52y0 : decide ((wrap64 (x9_1 + 3)) ≤ (t368.size : Int) + 2) = true := by rw [← c7zw2]; exact c52b0
                clear c52
                by_cases c53 : t368.size + 3 ≤ 9223372036854775807
                · rw [if_pos c53] at H
                  have c53b0 := eq_true c53
                  have c53b1 : decide (t368.size + 3 ≤ 9223372036854775807) = true := decide_eq_true c53
                  try have c53b2 : (9223372036854775807 < t368.size + 3) = False := eq_false (Nat.not_lt.2 c53)
                  by_cases c54 : x8_1 = true
                  · subst c54
                    have H1 : (topiarylaw12_LexerTexts.l0 k1 t368 t367 t370 t371 t374 t375 true (wrap64 (x9_1 + 1))) = some r := by rw [if_pos rfl] at H; exact H
                    clear H
                    have H := H1
                    clear H1
                    have H' := Aside0.mk H
                    clear H
                    go_wp2
                    go_roundg k1
                    case measure => have := HK1.out; omega
                    case rel => exact ⟨(true), (wrap64 (x9_1 + 1)), (by first | rfl | (simp; done) | (simp [*]; done)), (by first | rfl | (simp; done) | (simp [*]; done)), H', ⟨by have := HK1.out; omega⟩, ⟨by (with_reducible repeat (first | apply Kd.R_alloc | apply Kd.R_drewN | apply Kd.R_drew)); exact HO_4.out⟩, ⟨by (with_reducible repeat (first | apply Kd.R_alloc | apply Kd.R_drewN | apply Kd.R_drew)); exact HO_6.out⟩, ⟨by repeat (first | (with_reducible first | exact HB.out | apply below_alloc | apply pw_below_drewN | apply below_drew1) | exact HB.out)⟩⟩
                  · replace c54 := Bool.eq_false_iff.mpr c54
                    subst c54
                    have H1 : (if 0 ≤ x9_1 then (if x9_1 ≤ (wrap64 (x9_1 + 3)) then (if (wrap64 (x9_1 + 3)) ≤ ((t368 ++ (⟨#[93, 93, 62]⟩ : ByteArray)).size : Int) then (if ((t368 ++ (⟨#[93, 93, 62]⟩ : ByteArray)).extract (x9_1 : Int).toNat ((wrap64 (x9_1 + 3)) : Int).toNat).toList = ([93, 93, 62] : List UInt8) then (topiarylaw12_LexerTexts.l0 k1 t368 t367 t370 t371 t374 t375 (decide (x9_1 < (t368.size : Int))) (wrap64 (x9_1 + 1))) else (topiarylaw12_LexerTexts.l0 k1 t368 t367 t370 t371 t374 t375 false (wrap64 (x9_1 + 1)))) else (none)) else (none)) else (none)) = some r := by rw [if_neg (show ¬ (false = true) by decide)] at H; exact H
                    clear H
                    have H := H1
                    clear H1
                    by_cases c55 : 0 ≤ x9_1
                    · rw [if_pos c55] at H
                      have c55b0 := eq_true c55
                      have c55b1 : decide (0 ≤ x9_1) = true := decide_eq_true c55
                      clear c55
                      by_cases c56 : x9_1 ≤ (wrap64 (x9_1 + 3))
                      · rw [if_pos c56] at H
                        have c56b0 := eq_true c56
                        have c56b1 : decide (x9_1 ≤ (wrap64 (x9_1 + 3))) = true := decide_eq_true c56
                        by_cases c57 : (wrap64 (x9_1 + 3)) ≤ ((t368 ++ (⟨#[93, 93, 62]⟩ : ByteArray)).size : Int)
                        · rw [if_pos c57] at H
                          have c57b0 := eq_true c57
                          have c57b1 : decide ((wrap64 (x9_1 + 3)) ≤ ((t368 ++ (⟨#[93, 93, 62]⟩ : ByteArray)).size : Int)) = true := decide_eq_true c57
                          have c57y : (wrap64 (x9_1 + 3)) ≤ (t368.size : Int) + 3 := by have z_ := c57; rw [ByteArray.size_append] at z_; exact z_
                          have c57y0 := eq_true c57y
                          have c57y1 : decide ((wrap64 (x9_1 + 3)) ≤ (t368.size : Int) + 3) = true := decide_eq_true c57y
                          by_cases c58 : ((t368 ++ (⟨#[93, 93, 62]⟩ : ByteArray)).extract (x9_1 : Int).toNat ((wrap64 (x9_1 + 3)) : Int).toNat).toList = ([93, 93, 62] : List UInt8)
                          · rw [if_pos c58] at H
                            have c58b0 : (((t368 ++ (⟨#[93, 93, 62]⟩ : ByteArray)).extract (x9_1 : Int).toNat ((wrap64 (x9_1 + 3)) : Int).toNat).toList == ([93, 93, 62] : List UInt8)) = true := beq_iff_eq.mpr c58
                            have c58b1 : (((t368 ++ (⟨#[93, 93, 62]⟩ : ByteArray)).extract (x9_1 : Int).toNat ((wrap64 (x9_1 + 3)) : Int).toNat).toList != ([93, 93, 62] : List UInt8)) = false := bne_eq_false_iff_eq.mpr c58
                            clear c58
                            have H' := Aside0.mk H
                            clear H
                            go_wp2
                            go_roundg k1
                            case measure => have := HK1.out; omega
                            case rel => exact ⟨(decide (x9_1 < (t368.size : Int))), (wrap64 (x9_1 + 1)), (by first | rfl | (simp; done) | (simp [*]; done)), (by first | rfl | (simp; done) | (simp [*]; done)), H', ⟨by have := HK1.out; omega⟩, ⟨by (with_reducible repeat (first | apply Kd.R_alloc | apply Kd.R_drewN | apply Kd.R_drew)); exact HO_4.out⟩, ⟨by (with_reducible repeat (first | apply Kd.R_alloc | apply Kd.R_drewN | apply Kd.R_drew)); exact HO_6.out⟩, ⟨by repeat (first | (with_reducible first | exact HB.out | apply below_alloc | apply pw_below_drewN | apply below_drew1) | exact HB.out)⟩⟩
                          · rw [if_neg c58] at H
                            have c58b0 : (((t368 ++ (⟨#[93, 93, 62]⟩ : ByteArray)).extract (x9_1 : Int).toNat ((wrap64 (x9_1 + 3)) : Int).toNat).toList == ([93, 93, 62] : List UInt8)) = false := beq_eq_false_iff_ne.mpr c58
                            have c58b1 : (((t368 ++ (⟨#[93, 93, 62]⟩ : ByteArray)).extract (x9_1 : Int).toNat ((wrap64 (x9_1 + 3)) : Int).toNat).toList != ([93, 93, 62] : List UInt8)) = true := bne_iff_ne.mpr c58
                            have H' := Aside0.mk H
                            clear H
                            go_wp2
                            go_roundg k1
                            case measure => have := HK1.out; omega
                            case rel => exact ⟨(false), (wrap64 (x9_1 + 1)), (by first | rfl | (simp; done) | (simp [*]; done)), (by first | rfl | (simp; done) | (simp [*]; done)), H', ⟨by have := HK1.out; omega⟩, ⟨by (with_reducible repeat (first | apply Kd.R_alloc | apply Kd.R_drewN | apply Kd.R_drew)); exact HO_4.out⟩, ⟨by (with_reducible repeat (first | apply Kd.R_alloc | apply Kd.R_drewN | apply Kd.R_drew)); exact HO_6.out⟩, ⟨by repeat (first | (with_reducible first | exact HB.out | apply below_alloc | apply pw_below_drewN | apply below_drew1) | exact HB.out)⟩⟩
                        · rw [if_neg c57] at H
                          exact absurd H (by simp)
                      · rw [if_neg c56] at H
                        exact absurd H (by simp)
                    · rw [if_neg c55] at H
                      exact absurd H (by simp)
                · rw [if_neg c53] at H
                  exact absurd H (by simp)
              · rw [if_neg c52] at H
                have c52b0 : decide ((wrap64 (x9_1 + 3)) ≤ (wrap64 ((t368.size : Int) + 2))) = false := decide_eq_false c52
                have c52y0 : decide ((wrap64 (x9_1 + 3)) ≤ (t368.size : Int) + 2) = false := by rw [← c7zw2]; exact c52b0
                clear c52
                by_cases c59 : t367 = true
                · subst c59
                  have H1 : (if t371 = 0 then (if (t370.length : Int) = 1 then (if 0 < (t370.length : Int) then (if ((rd_T46 t370 0).f0) = 6 then (if ((rd_T46 t370 0).f4).toList = t368.toList then (if x8_1 = true then (some true) else (if t375 = 0 then (if (t374.length : Int) = 1 then (if 0 < (t374.length : Int) then (if ((rd_T46 t374 0).f4).toList = t368.toList then (some (((rd_T46 t374 0).f0) == 6)) else (some false)) else (none)) else (some false)) else (some false))) else (some false)) else (some false)) else (none)) else (some false)) else (some false)) = some r := by rw [if_pos rfl] at H; exact H
                  clear H
                  have H := H1
                  clear H1
                  by_cases c60 : t371 = 0
                  · rw [if_pos c60] at H
                    have c60b0 : (t371 == 0) = true := beq_iff_eq.mpr c60
                    have c60b1 : (t371 != 0) = false := bne_eq_false_iff_eq.mpr c60
                    clear c60
                    by_cases c61 : (t370.length : Int) = 1
                    · rw [if_pos c61] at H
                      have c61b0 : ((t370.length : Int) == 1) = true := beq_iff_eq.mpr c61
                      have c61b1 : ((t370.length : Int) != 1) = false := bne_eq_false_iff_eq.mpr c61
                      clear c61
                      by_cases c62 : 0 < (t370.length : Int)
                      · rw [if_pos c62] at H
                        have c62b0 : decide (0 < (t370.length : Int)) = true := decide_eq_true c62
                        have c62b1 : decide (0 < t370.length) = true := decide_eq_true (by omega)
                        clear c62
                        by_cases c63 : ((rd_T46 t370 0).f0) = 6
                        · rw [if_pos c63] at H
                          have c63b0 : (((rd_T46 t370 0).f0) == 6) = true := beq_iff_eq.mpr c63
                          have c63b1 : (((rd_T46 t370 0).f0) != 6) = false := bne_eq_false_iff_eq.mpr c63
                          clear c63
                          by_cases c64 : ((rd_T46 t370 0).f4).toList = t368.toList
                          · rw [if_pos c64] at H
                            have c64b0 : (((rd_T46 t370 0).f4).toList == t368.toList) = true := beq_iff_eq.mpr c64
                            have c64b1 : (((rd_T46 t370 0).f4).toList != t368.toList) = false := bne_eq_false_iff_eq.mpr c64
                            clear c64
                            by_cases c65 : x8_1 = true
                            · subst c65
                              have H1 : (some true) = some r := by rw [if_pos rfl] at H; exact H
                              clear H
                              have H := H1
                              clear H1
                              obtain rfl := Option.some.inj H
                              obtain ⟨Ao66, co66, eo66⟩ := Kd.R_slice HO_4.out
                              subst eo66
                              have p380 : 0 ≤ (0 : Int) := (by omega)
                              have q380 : 0 < (t370.length : Int) := of_decide_eq_true (by first | (with_reducible assumption) | assumption)
                              obtain ⟨ad380, e380, hx380_0, hx380_1, hx380_2, hx380_3, hx380_4⟩ := at_T46 (Kd.R_reads' HO_4.out).2.2 0 p380 q380
                              cases e380
                              have qi380 : (0 < t370.length) = True := eq_true (by omega)
                              (try rw [show ((0 : Int)).toNat = 0 from rfl] at hx380_0)
                              (try rw [show 0 * 5 = 0 from rfl] at hx380_0)
                              (try rw [Addr.add_zero'] at hx380_0)
                              (try rw [show ((0 : Int)).toNat = 0 from rfl] at hx380_1)
                              (try rw [show 0 * 5 = 0 from rfl] at hx380_1)
                              (try rw [Addr.add_zero'] at hx380_1)
                              (try rw [show ((0 : Int)).toNat = 0 from rfl] at hx380_2)
                              (try rw [show 0 * 5 = 0 from rfl] at hx380_2)
                              (try rw [Addr.add_zero'] at hx380_2)
                              (try rw [show ((0 : Int)).toNat = 0 from rfl] at hx380_3)
                              (try rw [show 0 * 5 = 0 from rfl] at hx380_3)
                              (try rw [Addr.add_zero'] at hx380_3)
                              (try rw [show ((0 : Int)).toNat = 0 from rfl] at hx380_4)
                              (try rw [show 0 * 5 = 0 from rfl] at hx380_4)
                              (try rw [Addr.add_zero'] at hx380_4)
                              replace p380 := eq_true p380
                              replace q380 := eq_true q380
                              have p381 : 0 ≤ (0 : Int) := (by omega)
                              have q381 : 0 < (t370.length : Int) := of_decide_eq_true (by first | (with_reducible assumption) | assumption)
                              obtain ⟨ad381, e381, hx381_0, hx381_1, hx381_2, hx381_3, hx381_4⟩ := at_T46 (Kd.R_reads' HO_4.out).2.2 0 p381 q381
                              obtain rfl : ad380 = ad381 := (by injection e381)
                              have qi381 : (0 < t370.length) = True := eq_true (by omega)
                              (try rw [show ((0 : Int)).toNat = 0 from rfl] at hx381_0)
                              (try rw [show 0 * 5 = 0 from rfl] at hx381_0)
                              (try rw [Addr.add_zero'] at hx381_0)
                              (try rw [show ((0 : Int)).toNat = 0 from rfl] at hx381_1)
                              (try rw [show 0 * 5 = 0 from rfl] at hx381_1)
                              (try rw [Addr.add_zero'] at hx381_1)
                              (try rw [show ((0 : Int)).toNat = 0 from rfl] at hx381_2)
                              (try rw [show 0 * 5 = 0 from rfl] at hx381_2)
                              (try rw [Addr.add_zero'] at hx381_2)
                              (try rw [show ((0 : Int)).toNat = 0 from rfl] at hx381_3)
                              (try rw [show 0 * 5 = 0 from rfl] at hx381_3)
                              (try rw [Addr.add_zero'] at hx381_3)
                              (try rw [show ((0 : Int)).toNat = 0 from rfl] at hx381_4)
                              (try rw [show 0 * 5 = 0 from rfl] at hx381_4)
                              (try rw [Addr.add_zero'] at hx381_4)
                              replace p381 := eq_true p381
                              replace q381 := eq_true q381
                              go_wp2
                              go_ret
                              exact ⟨by first | rfl | (simp [errW_none, errW_some] <;> rfl) | (simp [*, errW_none, errW_some] <;> rfl), by repeat (first | (with_reducible first | exact HB.out | apply below_alloc | apply pw_below_drewN | apply below_drew1) | exact HB.out)⟩
                            · replace c65 := Bool.eq_false_iff.mpr c65
                              subst c65
                              have H1 : (if t375 = 0 then (if (t374.length : Int) = 1 then (if 0 < (t374.length : Int) then (if ((rd_T46 t374 0).f4).toList = t368.toList then (some (((rd_T46 t374 0).f0) == 6)) else (some false)) else (none)) else (some false)) else (some false)) = some r := by rw [if_neg (show ¬ (false = true) by decide)] at H; exact H
                              clear H
                              have H := H1
                              clear H1
                              by_cases c67 : t375 = 0
                              · rw [if_pos c67] at H
                                have c67b0 : (t375 == 0) = true := beq_iff_eq.mpr c67
                                have c67b1 : (t375 != 0) = false := bne_eq_false_iff_eq.mpr c67
                                clear c67
                                by_cases c68 : (t374.length : Int) = 1
                                · rw [if_pos c68] at H
                                  have c68b0 : ((t374.length : Int) == 1) = true := beq_iff_eq.mpr c68
                                  have c68b1 : ((t374.length : Int) != 1) = false := bne_eq_false_iff_eq.mpr c68
                                  clear c68
                                  by_cases c69 : 0 < (t374.length : Int)
                                  · rw [if_pos c69] at H
                                    have c69b0 : decide (0 < (t374.length : Int)) = true := decide_eq_true c69
                                    have c69b1 : decide (0 < t374.length) = true := decide_eq_true (by omega)
                                    clear c69
                                    by_cases c70 : ((rd_T46 t374 0).f4).toList = t368.toList
                                    · rw [if_pos c70] at H
                                      have c70b0 : (((rd_T46 t374 0).f4).toList == t368.toList) = true := beq_iff_eq.mpr c70
                                      have c70b1 : (((rd_T46 t374 0).f4).toList != t368.toList) = false := bne_eq_false_iff_eq.mpr c70
                                      clear c70
                                      obtain rfl := Option.some.inj H
                                      obtain ⟨Ao71, co71, eo71⟩ := Kd.R_slice HO_4.out
                                      subst eo71
                                      have p380 : 0 ≤ (0 : Int) := (by omega)
                                      have q380 : 0 < (t370.length : Int) := of_decide_eq_true (by first | (with_reducible assumption) | assumption)
                                      obtain ⟨ad380, e380, hx380_0, hx380_1, hx380_2, hx380_3, hx380_4⟩ := at_T46 (Kd.R_reads' HO_4.out).2.2 0 p380 q380
                                      cases e380
                                      have qi380 : (0 < t370.length) = True := eq_true (by omega)
                                      (try rw [show ((0 : Int)).toNat = 0 from rfl] at hx380_0)
                                      (try rw [show 0 * 5 = 0 from rfl] at hx380_0)
                                      (try rw [Addr.add_zero'] at hx380_0)
                                      (try rw [show ((0 : Int)).toNat = 0 from rfl] at hx380_1)
                                      (try rw [show 0 * 5 = 0 from rfl] at hx380_1)
                                      (try rw [Addr.add_zero'] at hx380_1)
                                      (try rw [show ((0 : Int)).toNat = 0 from rfl] at hx380_2)
                                      (try rw [show 0 * 5 = 0 from rfl] at hx380_2)
                                      (try rw [Addr.add_zero'] at hx380_2)
                                      (try rw [show ((0 : Int)).toNat = 0 from rfl] at hx380_3)
                                      (try rw [show 0 * 5 = 0 from rfl] at hx380_3)
                                      (try rw [Addr.add_zero'] at hx380_3)
                                      (try rw [show ((0 : Int)).toNat = 0 from rfl] at hx380_4)
                                      (try rw [show 0 * 5 = 0 from rfl] at hx380_4)
                                      (try rw [Addr.add_zero'] at hx380_4)
                                      replace p380 := eq_true p380
                                      replace q380 := eq_true q380
                                      have p381 : 0 ≤ (0 : Int) := (by omega)
                                      have q381 : 0 < (t370.length : Int) := of_decide_eq_true (by first | (with_reducible assumption) | assumption)
                                      obtain ⟨ad381, e381, hx381_0, hx381_1, hx381_2, hx381_3, hx381_4⟩ := at_T46 (Kd.R_reads' HO_4.out).2.2 0 p381 q381
                                      obtain rfl : ad380 = ad381 := (by injection e381)
                                      have qi381 : (0 < t370.length) = True := eq_true (by omega)
                                      (try rw [show ((0 : Int)).toNat = 0 from rfl] at hx381_0)
                                      (try rw [show 0 * 5 = 0 from rfl] at hx381_0)
                                      (try rw [Addr.add_zero'] at hx381_0)
                                      (try rw [show ((0 : Int)).toNat = 0 from rfl] at hx381_1)
                                      (try rw [show 0 * 5 = 0 from rfl] at hx381_1)
                                      (try rw [Addr.add_zero'] at hx381_1)
                                      (try rw [show ((0 : Int)).toNat = 0 from rfl] at hx381_2)
                                      (try rw [show 0 * 5 = 0 from rfl] at hx381_2)
                                      (try rw [Addr.add_zero'] at hx381_2)
                                      (try rw [show ((0 : Int)).toNat = 0 from rfl] at hx381_3)
                                      (try rw [show 0 * 5 = 0 from rfl] at hx381_3)
                                      (try rw [Addr.add_zero'] at hx381_3)
                                      (try rw [show ((0 : Int)).toNat = 0 from rfl] at hx381_4)
                                      (try rw [show 0 * 5 = 0 from rfl] at hx381_4)
                                      (try rw [Addr.add_zero'] at hx381_4)
                                      replace p381 := eq_true p381
                                      replace q381 := eq_true q381
                                      obtain ⟨Ao72, co72, eo72⟩ := Kd.R_slice HO_6.out
                                      subst eo72
                                      have p382 : 0 ≤ (0 : Int) := (by omega)
                                      have q382 : 0 < (t374.length : Int) := of_decide_eq_true (by first | (with_reducible assumption) | assumption)
                                      obtain ⟨ad382, e382, hx382_0, hx382_1, hx382_2, hx382_3, hx382_4⟩ := at_T46 (Kd.R_reads' HO_6.out).2.2 0 p382 q382
                                      cases e382
                                      have qi382 : (0 < t374.length) = True := eq_true (by omega)
                                      (try rw [show ((0 : Int)).toNat = 0 from rfl] at hx382_0)
                                      (try rw [show 0 * 5 = 0 from rfl] at hx382_0)
                                      (try rw [Addr.add_zero'] at hx382_0)
                                      (try rw [show ((0 : Int)).toNat = 0 from rfl] at hx382_1)
                                      (try rw [show 0 * 5 = 0 from rfl] at hx382_1)
                                      (try rw [Addr.add_zero'] at hx382_1)
                                      (try rw [show ((0 : Int)).toNat = 0 from rfl] at hx382_2)
                                      (try rw [show 0 * 5 = 0 from rfl] at hx382_2)
                                      (try rw [Addr.add_zero'] at hx382_2)
                                      (try rw [show ((0 : Int)).toNat = 0 from rfl] at hx382_3)
                                      (try rw [show 0 * 5 = 0 from rfl] at hx382_3)
                                      (try rw [Addr.add_zero'] at hx382_3)
                                      (try rw [show ((0 : Int)).toNat = 0 from rfl] at hx382_4)
                                      (try rw [show 0 * 5 = 0 from rfl] at hx382_4)
                                      (try rw [Addr.add_zero'] at hx382_4)
                                      replace p382 := eq_true p382
                                      replace q382 := eq_true q382
                                      have p383 : 0 ≤ (0 : Int) := (by omega)
                                      have q383 : 0 < (t374.length : Int) := of_decide_eq_true (by first | (with_reducible assumption) | assumption)
                                      obtain ⟨ad383, e383, hx383_0, hx383_1, hx383_2, hx383_3, hx383_4⟩ := at_T46 (Kd.R_reads' HO_6.out).2.2 0 p383 q383
                                      obtain rfl : ad382 = ad383 := (by injection e383)
                                      have qi383 : (0 < t374.length) = True := eq_true (by omega)
                                      (try rw [show ((0 : Int)).toNat = 0 from rfl] at hx383_0)
                                      (try rw [show 0 * 5 = 0 from rfl] at hx383_0)
                                      (try rw [Addr.add_zero'] at hx383_0)
                                      (try rw [show ((0 : Int)).toNat = 0 from rfl] at hx383_1)
                                      (try rw [show 0 * 5 = 0 from rfl] at hx383_1)
                                      (try rw [Addr.add_zero'] at hx383_1)
                                      (try rw [show ((0 : Int)).toNat = 0 from rfl] at hx383_2)
                                      (try rw [show 0 * 5 = 0 from rfl] at hx383_2)
                                      (try rw [Addr.add_zero'] at hx383_2)
                                      (try rw [show ((0 : Int)).toNat = 0 from rfl] at hx383_3)
                                      (try rw [show 0 * 5 = 0 from rfl] at hx383_3)
                                      (try rw [Addr.add_zero'] at hx383_3)
                                      (try rw [show ((0 : Int)).toNat = 0 from rfl] at hx383_4)
                                      (try rw [show 0 * 5 = 0 from rfl] at hx383_4)
                                      (try rw [Addr.add_zero'] at hx383_4)
                                      replace p383 := eq_true p383
                                      replace q383 := eq_true q383
                                      go_wp2
                                      go_ret
                                      exact ⟨by first | rfl | (simp [errW_none, errW_some] <;> rfl) | (simp [*, errW_none, errW_some] <;> rfl), by repeat (first | (with_reducible first | exact HB.out | apply below_alloc | apply pw_below_drewN | apply below_drew1) | exact HB.out)⟩
                                    · rw [if_neg c70] at H
                                      have c70b0 : (((rd_T46 t374 0).f4).toList == t368.toList) = false := beq_eq_false_iff_ne.mpr c70
                                      have c70b1 : (((rd_T46 t374 0).f4).toList != t368.toList) = true := bne_iff_ne.mpr c70
                                      obtain rfl := Option.some.inj H
                                      obtain ⟨Ao73, co73, eo73⟩ := Kd.R_slice HO_4.out
                                      subst eo73
                                      have p380 : 0 ≤ (0 : Int) := (by omega)
                                      have q380 : 0 < (t370.length : Int) := of_decide_eq_true (by first | (with_reducible assumption) | assumption)
                                      obtain ⟨ad380, e380, hx380_0, hx380_1, hx380_2, hx380_3, hx380_4⟩ := at_T46 (Kd.R_reads' HO_4.out).2.2 0 p380 q380
                                      cases e380
                                      have qi380 : (0 < t370.length) = True := eq_true (by omega)
                                      (try rw [show ((0 : Int)).toNat = 0 from rfl] at hx380_0)
                                      (try rw [show 0 * 5 = 0 from rfl] at hx380_0)
                                      (try rw [Addr.add_zero'] at hx380_0)
                                      (try rw [show ((0 : Int)).toNat = 0 from rfl] at hx380_1)
                                      (try rw [show 0 * 5 = 0 from rfl] at hx380_1)
                                      (try rw [Addr.add_zero'] at hx380_1)
                                      (try rw [show ((0 : Int)).toNat = 0 from rfl] at hx380_2)
                                      (try rw [show 0 * 5 = 0 from rfl] at hx380_2)
                                      (try rw [Addr.add_zero'] at hx380_2)
                                      (try rw [show ((0 : Int)).toNat = 0 from rfl] at hx380_3)
                                      (try rw [show 0 * 5 = 0 from rfl] at hx380_3)
                                      (try rw [Addr.add_zero'] at hx380_3)
                                      (try rw [show ((0 : Int)).toNat = 0 from rfl] at hx380_4)
                                      (try rw [show 0 * 5 = 0 from rfl] at hx380_4)
                                      (try rw [Addr.add_zero'] at hx380_4)
                                      replace p380 := eq_true p380
                                      replace q380 := eq_true q380
                                      have p381 : 0 ≤ (0 : Int) := (by omega)
                                      have q381 : 0 < (t370.length : Int) := of_decide_eq_true (by first | (with_reducible assumption) | assumption)
                                      obtain ⟨ad381, e381, hx381_0, hx381_1, hx381_2, hx381_3, hx381_4⟩ := at_T46 (Kd.R_reads' HO_4.out).2.2 0 p381 q381
                                      obtain rfl : ad380 = ad381 := (by injection e381)
                                      have qi381 : (0 < t370.length) = True := eq_true (by omega)
                                      (try rw [show ((0 : Int)).toNat = 0 from rfl] at hx381_0)
                                      (try rw [show 0 * 5 = 0 from rfl] at hx381_0)
                                      (try rw [Addr.add_zero'] at hx381_0)
                                      (try rw [show ((0 : Int)).toNat = 0 from rfl] at hx381_1)
                                      (try rw [show 0 * 5 = 0 from rfl] at hx381_1)
                                      (try rw [Addr.add_zero'] at hx381_1)
                                      (try rw [show ((0 : Int)).toNat = 0 from rfl] at hx381_2)
                                      (try rw [show 0 * 5 = 0 from rfl] at hx381_2)
                                      (try rw [Addr.add_zero'] at hx381_2)
                                      (try rw [show ((0 : Int)).toNat = 0 from rfl] at hx381_3)
                                      (try rw [show 0 * 5 = 0 from rfl] at hx381_3)
                                      (try rw [Addr.add_zero'] at hx381_3)
                                      (try rw [show ((0 : Int)).toNat = 0 from rfl] at hx381_4)
                                      (try rw [show 0 * 5 = 0 from rfl] at hx381_4)
                                      (try rw [Addr.add_zero'] at hx381_4)
                                      replace p381 := eq_true p381
                                      replace q381 := eq_true q381
                                      obtain ⟨Ao74, co74, eo74⟩ := Kd.R_slice HO_6.out
                                      subst eo74
                                      have p382 : 0 ≤ (0 : Int) := (by omega)
                                      have q382 : 0 < (t374.length : Int) := of_decide_eq_true (by first | (with_reducible assumption) | assumption)
                                      obtain ⟨ad382, e382, hx382_0, hx382_1, hx382_2, hx382_3, hx382_4⟩ := at_T46 (Kd.R_reads' HO_6.out).2.2 0 p382 q382
                                      cases e382
                                      have qi382 : (0 < t374.length) = True := eq_true (by omega)
                                      (try rw [show ((0 : Int)).toNat = 0 from rfl] at hx382_0)
                                      (try rw [show 0 * 5 = 0 from rfl] at hx382_0)
                                      (try rw [Addr.add_zero'] at hx382_0)
                                      (try rw [show ((0 : Int)).toNat = 0 from rfl] at hx382_1)
                                      (try rw [show 0 * 5 = 0 from rfl] at hx382_1)
                                      (try rw [Addr.add_zero'] at hx382_1)
                                      (try rw [show ((0 : Int)).toNat = 0 from rfl] at hx382_2)
                                      (try rw [show 0 * 5 = 0 from rfl] at hx382_2)
                                      (try rw [Addr.add_zero'] at hx382_2)
                                      (try rw [show ((0 : Int)).toNat = 0 from rfl] at hx382_3)
                                      (try rw [show 0 * 5 = 0 from rfl] at hx382_3)
                                      (try rw [Addr.add_zero'] at hx382_3)
                                      (try rw [show ((0 : Int)).toNat = 0 from rfl] at hx382_4)
                                      (try rw [show 0 * 5 = 0 from rfl] at hx382_4)
                                      (try rw [Addr.add_zero'] at hx382_4)
                                      replace p382 := eq_true p382
                                      replace q382 := eq_true q382
                                      go_wp2
                                      go_ret
                                      exact ⟨by first | rfl | (simp [errW_none, errW_some] <;> rfl) | (simp [*, errW_none, errW_some] <;> rfl), by repeat (first | (with_reducible first | exact HB.out | apply below_alloc | apply pw_below_drewN | apply below_drew1) | exact HB.out)⟩
                                  · rw [if_neg c69] at H
                                    exact absurd H (by simp)
                                · rw [if_neg c68] at H
                                  have c68b0 : ((t374.length : Int) == 1) = false := beq_eq_false_iff_ne.mpr c68
                                  have c68b1 : ((t374.length : Int) != 1) = true := bne_iff_ne.mpr c68
                                  obtain rfl := Option.some.inj H
                                  obtain ⟨Ao75, co75, eo75⟩ := Kd.R_slice HO_4.out
                                  subst eo75
                                  have p380 : 0 ≤ (0 : Int) := (by omega)
                                  have q380 : 0 < (t370.length : Int) := of_decide_eq_true (by first | (with_reducible assumption) | assumption)
                                  obtain ⟨ad380, e380, hx380_0, hx380_1, hx380_2, hx380_3, hx380_4⟩ := at_T46 (Kd.R_reads' HO_4.out).2.2 0 p380 q380
                                  cases e380
                                  have qi380 : (0 < t370.length) = True := eq_true (by omega)
                                  (try rw [show ((0 : Int)).toNat = 0 from rfl] at hx380_0)
                                  (try rw [show 0 * 5 = 0 from rfl] at hx380_0)
                                  (try rw [Addr.add_zero'] at hx380_0)
                                  (try rw [show ((0 : Int)).toNat = 0 from rfl] at hx380_1)
                                  (try rw [show 0 * 5 = 0 from rfl] at hx380_1)
                                  (try rw [Addr.add_zero'] at hx380_1)
                                  (try rw [show ((0 : Int)).toNat = 0 from rfl] at hx380_2)
                                  (try rw [show 0 * 5 = 0 from rfl] at hx380_2)
                                  (try rw [Addr.add_zero'] at hx380_2)
                                  (try rw [show ((0 : Int)).toNat = 0 from rfl] at hx380_3)
                                  (try rw [show 0 * 5 = 0 from rfl] at hx380_3)
                                  (try rw [Addr.add_zero'] at hx380_3)
                                  (try rw [show ((0 : Int)).toNat = 0 from rfl] at hx380_4)
                                  (try rw [show 0 * 5 = 0 from rfl] at hx380_4)
                                  (try rw [Addr.add_zero'] at hx380_4)
                                  replace p380 := eq_true p380
                                  replace q380 := eq_true q380
                                  have p381 : 0 ≤ (0 : Int) := (by omega)
                                  have q381 : 0 < (t370.length : Int) := of_decide_eq_true (by first | (with_reducible assumption) | assumption)
                                  obtain ⟨ad381, e381, hx381_0, hx381_1, hx381_2, hx381_3, hx381_4⟩ := at_T46 (Kd.R_reads' HO_4.out).2.2 0 p381 q381
                                  obtain rfl : ad380 = ad381 := (by injection e381)
                                  have qi381 : (0 < t370.length) = True := eq_true (by omega)
                                  (try rw [show ((0 : Int)).toNat = 0 from rfl] at hx381_0)
                                  (try rw [show 0 * 5 = 0 from rfl] at hx381_0)
                                  (try rw [Addr.add_zero'] at hx381_0)
                                  (try rw [show ((0 : Int)).toNat = 0 from rfl] at hx381_1)
                                  (try rw [show 0 * 5 = 0 from rfl] at hx381_1)
                                  (try rw [Addr.add_zero'] at hx381_1)
                                  (try rw [show ((0 : Int)).toNat = 0 from rfl] at hx381_2)
                                  (try rw [show 0 * 5 = 0 from rfl] at hx381_2)
                                  (try rw [Addr.add_zero'] at hx381_2)
                                  (try rw [show ((0 : Int)).toNat = 0 from rfl] at hx381_3)
                                  (try rw [show 0 * 5 = 0 from rfl] at hx381_3)
                                  (try rw [Addr.add_zero'] at hx381_3)
                                  (try rw [show ((0 : Int)).toNat = 0 from rfl] at hx381_4)
                                  (try rw [show 0 * 5 = 0 from rfl] at hx381_4)
                                  (try rw [Addr.add_zero'] at hx381_4)
                                  replace p381 := eq_true p381
                                  replace q381 := eq_true q381
                                  obtain ⟨Ao76, co76, eo76⟩ := Kd.R_slice HO_6.out
                                  subst eo76
                                  go_wp2
                                  go_ret
                                  exact ⟨by first | rfl | (simp [errW_none, errW_some] <;> rfl) | (simp [*, errW_none, errW_some] <;> rfl), by repeat (first | (with_reducible first | exact HB.out | apply below_alloc | apply pw_below_drewN | apply below_drew1) | exact HB.out)⟩
                              · rw [if_neg c67] at H
                                have c67b0 : (t375 == 0) = false := beq_eq_false_iff_ne.mpr c67
                                have c67b1 : (t375 != 0) = true := bne_iff_ne.mpr c67
                                obtain rfl := Option.some.inj H
                                obtain ⟨Ao77, co77, eo77⟩ := Kd.R_slice HO_4.out
                                subst eo77
                                have p380 : 0 ≤ (0 : Int) := (by omega)
                                have q380 : 0 < (t370.length : Int) := of_decide_eq_true (by first | (with_reducible assumption) | assumption)
                                obtain ⟨ad380, e380, hx380_0, hx380_1, hx380_2, hx380_3, hx380_4⟩ := at_T46 (Kd.R_reads' HO_4.out).2.2 0 p380 q380
                                cases e380
                                have qi380 : (0 < t370.length) = True := eq_true (by omega)
                                (try rw [show ((0 : Int)).toNat = 0 from rfl] at hx380_0)
                                (try rw [show 0 * 5 = 0 from rfl] at hx380_0)
                                (try rw [Addr.add_zero'] at hx380_0)
                                (try rw [show ((0 : Int)).toNat = 0 from rfl] at hx380_1)
                                (try rw [show 0 * 5 = 0 from rfl] at hx380_1)
                                (try rw [Addr.add_zero'] at hx380_1)
                                (try rw [show ((0 : Int)).toNat = 0 from rfl] at hx380_2)
                                (try rw [show 0 * 5 = 0 from rfl] at hx380_2)
                                (try rw [Addr.add_zero'] at hx380_2)
                                (try rw [show ((0 : Int)).toNat = 0 from rfl] at hx380_3)
                                (try rw [show 0 * 5 = 0 from rfl] at hx380_3)
                                (try rw [Addr.add_zero'] at hx380_3)
                                (try rw [show ((0 : Int)).toNat = 0 from rfl] at hx380_4)
                                (try rw [show 0 * 5 = 0 from rfl] at hx380_4)
                                (try rw [Addr.add_zero'] at hx380_4)
                                replace p380 := eq_true p380
                                replace q380 := eq_true q380
                                have p381 : 0 ≤ (0 : Int) := (by omega)
                                have q381 : 0 < (t370.length : Int) := of_decide_eq_true (by first | (with_reducible assumption) | assumption)
                                obtain ⟨ad381, e381, hx381_0, hx381_1, hx381_2, hx381_3, hx381_4⟩ := at_T46 (Kd.R_reads' HO_4.out).2.2 0 p381 q381
                                obtain rfl : ad380 = ad381 := (by injection e381)
                                have qi381 : (0 < t370.length) = True := eq_true (by omega)
                                (try rw [show ((0 : Int)).toNat = 0 from rfl] at hx381_0)
                                (try rw [show 0 * 5 = 0 from rfl] at hx381_0)
                                (try rw [Addr.add_zero'] at hx381_0)
                                (try rw [show ((0 : Int)).toNat = 0 from rfl] at hx381_1)
                                (try rw [show 0 * 5 = 0 from rfl] at hx381_1)
                                (try rw [Addr.add_zero'] at hx381_1)
                                (try rw [show ((0 : Int)).toNat = 0 from rfl] at hx381_2)
                                (try rw [show 0 * 5 = 0 from rfl] at hx381_2)
                                (try rw [Addr.add_zero'] at hx381_2)
                                (try rw [show ((0 : Int)).toNat = 0 from rfl] at hx381_3)
                                (try rw [show 0 * 5 = 0 from rfl] at hx381_3)
                                (try rw [Addr.add_zero'] at hx381_3)
                                (try rw [show ((0 : Int)).toNat = 0 from rfl] at hx381_4)
                                (try rw [show 0 * 5 = 0 from rfl] at hx381_4)
                                (try rw [Addr.add_zero'] at hx381_4)
                                replace p381 := eq_true p381
                                replace q381 := eq_true q381
                                go_wp2
                                go_ret
                                exact ⟨by first | rfl | (simp [errW_none, errW_some] <;> rfl) | (simp [*, errW_none, errW_some] <;> rfl), by repeat (first | (with_reducible first | exact HB.out | apply below_alloc | apply pw_below_drewN | apply below_drew1) | exact HB.out)⟩
                          · rw [if_neg c64] at H
                            have c64b0 : (((rd_T46 t370 0).f4).toList == t368.toList) = false := beq_eq_false_iff_ne.mpr c64
                            have c64b1 : (((rd_T46 t370 0).f4).toList != t368.toList) = true := bne_iff_ne.mpr c64
                            obtain rfl := Option.some.inj H
                            obtain ⟨Ao78, co78, eo78⟩ := Kd.R_slice HO_4.out
                            subst eo78
                            have p380 : 0 ≤ (0 : Int) := (by omega)
                            have q380 : 0 < (t370.length : Int) := of_decide_eq_true (by first | (with_reducible assumption) | assumption)
                            obtain ⟨ad380, e380, hx380_0, hx380_1, hx380_2, hx380_3, hx380_4⟩ := at_T46 (Kd.R_reads' HO_4.out).2.2 0 p380 q380
                            cases e380
                            have qi380 : (0 < t370.length) = True := eq_true (by omega)
                            (try rw [show ((0 : Int)).toNat = 0 from rfl] at hx380_0)
                            (try rw [show 0 * 5 = 0 from rfl] at hx380_0)
                            (try rw [Addr.add_zero'] at hx380_0)
                            (try rw [show ((0 : Int)).toNat = 0 from rfl] at hx380_1)
                            (try rw [show 0 * 5 = 0 from rfl] at hx380_1)
                            (try rw [Addr.add_zero'] at hx380_1)
                            (try rw [show ((0 : Int)).toNat = 0 from rfl] at hx380_2)
                            (try rw [show 0 * 5 = 0 from rfl] at hx380_2)
                            (try rw [Addr.add_zero'] at hx380_2)
                            (try rw [show ((0 : Int)).toNat = 0 from rfl] at hx380_3)
                            (try rw [show 0 * 5 = 0 from rfl] at hx380_3)
                            (try rw [Addr.add_zero'] at hx380_3)
                            (try rw [show ((0 : Int)).toNat = 0 from rfl] at hx380_4)
                            (try rw [show 0 * 5 = 0 from rfl] at hx380_4)
                            (try rw [Addr.add_zero'] at hx380_4)
                            replace p380 := eq_true p380
                            replace q380 := eq_true q380
                            have p381 : 0 ≤ (0 : Int) := (by omega)
                            have q381 : 0 < (t370.length : Int) := of_decide_eq_true (by first | (with_reducible assumption) | assumption)
                            obtain ⟨ad381, e381, hx381_0, hx381_1, hx381_2, hx381_3, hx381_4⟩ := at_T46 (Kd.R_reads' HO_4.out).2.2 0 p381 q381
                            obtain rfl : ad380 = ad381 := (by injection e381)
                            have qi381 : (0 < t370.length) = True := eq_true (by omega)
                            (try rw [show ((0 : Int)).toNat = 0 from rfl] at hx381_0)
                            (try rw [show 0 * 5 = 0 from rfl] at hx381_0)
                            (try rw [Addr.add_zero'] at hx381_0)
                            (try rw [show ((0 : Int)).toNat = 0 from rfl] at hx381_1)
                            (try rw [show 0 * 5 = 0 from rfl] at hx381_1)
                            (try rw [Addr.add_zero'] at hx381_1)
                            (try rw [show ((0 : Int)).toNat = 0 from rfl] at hx381_2)
                            (try rw [show 0 * 5 = 0 from rfl] at hx381_2)
                            (try rw [Addr.add_zero'] at hx381_2)
                            (try rw [show ((0 : Int)).toNat = 0 from rfl] at hx381_3)
                            (try rw [show 0 * 5 = 0 from rfl] at hx381_3)
                            (try rw [Addr.add_zero'] at hx381_3)
                            (try rw [show ((0 : Int)).toNat = 0 from rfl] at hx381_4)
                            (try rw [show 0 * 5 = 0 from rfl] at hx381_4)
                            (try rw [Addr.add_zero'] at hx381_4)
                            replace p381 := eq_true p381
                            replace q381 := eq_true q381
                            go_wp2
                            go_ret
                            exact ⟨by first | rfl | (simp [errW_none, errW_some] <;> rfl) | (simp [*, errW_none, errW_some] <;> rfl), by repeat (first | (with_reducible first | exact HB.out | apply below_alloc | apply pw_below_drewN | apply below_drew1) | exact HB.out)⟩
                        · rw [if_neg c63] at H
                          have c63b0 : (((rd_T46 t370 0).f0) == 6) = false := beq_eq_false_iff_ne.mpr c63
                          have c63b1 : (((rd_T46 t370 0).f0) != 6) = true := bne_iff_ne.mpr c63
                          obtain rfl := Option.some.inj H
                          obtain ⟨Ao79, co79, eo79⟩ := Kd.R_slice HO_4.out
                          subst eo79
                          have p380 : 0 ≤ (0 : Int) := (by omega)
                          have q380 : 0 < (t370.length : Int) := of_decide_eq_true (by first | (with_reducible assumption) | assumption)
                          obtain ⟨ad380, e380, hx380_0, hx380_1, hx380_2, hx380_3, hx380_4⟩ := at_T46 (Kd.R_reads' HO_4.out).2.2 0 p380 q380
                          cases e380
                          have qi380 : (0 < t370.length) = True := eq_true (by omega)
                          (try rw [show ((0 : Int)).toNat = 0 from rfl] at hx380_0)
                          (try rw [show 0 * 5 = 0 from rfl] at hx380_0)
                          (try rw [Addr.add_zero'] at hx380_0)
                          (try rw [show ((0 : Int)).toNat = 0 from rfl] at hx380_1)
                          (try rw [show 0 * 5 = 0 from rfl] at hx380_1)
                          (try rw [Addr.add_zero'] at hx380_1)
                          (try rw [show ((0 : Int)).toNat = 0 from rfl] at hx380_2)
                          (try rw [show 0 * 5 = 0 from rfl] at hx380_2)
                          (try rw [Addr.add_zero'] at hx380_2)
                          (try rw [show ((0 : Int)).toNat = 0 from rfl] at hx380_3)
                          (try rw [show 0 * 5 = 0 from rfl] at hx380_3)
                          (try rw [Addr.add_zero'] at hx380_3)
                          (try rw [show ((0 : Int)).toNat = 0 from rfl] at hx380_4)
                          (try rw [show 0 * 5 = 0 from rfl] at hx380_4)
                          (try rw [Addr.add_zero'] at hx380_4)
                          replace p380 := eq_true p380
                          replace q380 := eq_true q380
                          go_wp2
                          go_ret
                          exact ⟨by first | rfl | (simp [errW_none, errW_some] <;> rfl) | (simp [*, errW_none, errW_some] <;> rfl), by repeat (first | (with_reducible first | exact HB.out | apply below_alloc | apply pw_below_drewN | apply below_drew1) | exact HB.out)⟩
                      · rw [if_neg c62] at H
                        exact absurd H (by simp)
                    · rw [if_neg c61] at H
                      have c61b0 : ((t370.length : Int) == 1) = false := beq_eq_false_iff_ne.mpr c61
                      have c61b1 : ((t370.length : Int) != 1) = true := bne_iff_ne.mpr c61
                      obtain rfl := Option.some.inj H
                      obtain ⟨Ao80, co80, eo80⟩ := Kd.R_slice HO_4.out
                      subst eo80
                      go_wp2
                      go_ret
                      exact ⟨by first | rfl | (simp [errW_none, errW_some] <;> rfl) | (simp [*, errW_none, errW_some] <;> rfl), by repeat (first | (with_reducible first | exact HB.out | apply below_alloc | apply pw_below_drewN | apply below_drew1) | exact HB.out)⟩
                  · rw [if_neg c60] at H
                    have c60b0 : (t371 == 0) = false := beq_eq_false_iff_ne.mpr c60
                    have c60b1 : (t371 != 0) = true := bne_iff_ne.mpr c60
                    obtain rfl := Option.some.inj H
                    go_wp2
                    go_ret
                    exact ⟨by first | rfl | (simp [errW_none, errW_some] <;> rfl) | (simp [*, errW_none, errW_some] <;> rfl), by repeat (first | (with_reducible first | exact HB.out | apply below_alloc | apply pw_below_drewN | apply below_drew1) | exact HB.out)⟩
                · replace c59 := Bool.eq_false_iff.mpr c59
                  subst c59
                  have H1 : (some false) = some r := by rw [if_neg (show ¬ (false = true) by decide)] at H; exact H
                  clear H
                  have H := H1
                  clear H1
                  obtain rfl := Option.some.inj H
                  go_wp2
                  go_ret
                  exact ⟨by first | rfl | (simp [errW_none, errW_some] <;> rfl) | (simp [*, errW_none, errW_some] <;> rfl), by repeat (first | (with_reducible first | exact HB.out | apply below_alloc | apply pw_below_drewN | apply below_drew1) | exact HB.out)⟩
      · replace c10 := Bool.eq_false_iff.mpr c10
        subst c10
        have H1 : (if t367 = true then (if t371 = 15 then (some (t375 == 15)) else (some false)) else (some false)) = some r := by rw [if_neg (show ¬ (false = true) by decide)] at H; exact H
        clear H
        have H := H1
        clear H1
        by_cases c81 : t367 = true
        · subst c81
          have H1 : (if t371 = 15 then (some (t375 == 15)) else (some false)) = some r := by rw [if_pos rfl] at H; exact H
          clear H
          have H := H1
          clear H1
          by_cases c82 : t371 = 15
          · rw [if_pos c82] at H
            have c82b0 : (t371 == 15) = true := beq_iff_eq.mpr c82
            have c82b1 : (t371 != 15) = false := bne_eq_false_iff_eq.mpr c82
            clear c82
            obtain rfl := Option.some.inj H
            go_enter Try.func14, Try.ntmps14
            go_wp2_with (first | ((with_reducible refine gate_callee (f := 37) rfl ?_); refine goesL_ (some 11) rfl rfl Try.func37 (by kernel_rfl) rfl #[] rfl (by (try simp only [List.map_toArray, List.map_cons, List.map_nil]); first | done | rfl | (simp only [List.length_drop, List.length_take]; rfl)) ?_; (with_reducible refine (topiarylaw12_awake.calls  true _ (by first | exact hG | exact G.below hG (by repeat (first | (with_reducible first | exact HB.out | apply below_alloc | apply pw_below_drewN | apply below_drew1) | exact HB.out))) A2.out).mono ?_); rintro e w83 ⟨rfl, hb⟩; refine ⟨_, rfl, ?_⟩; have n0_ := Aside0.mk (below_step (by repeat (first | (with_reducible first | exact HB.out | apply below_alloc | apply pw_below_drewN | apply below_drew1) | exact HB.out)) hb); clear HB; have HB := n0_; clear n0_; (try clear hb); (try clear hb2); (try clear hk); (try clear hi)) | ((with_reducible refine gate_callee (f := 38) rfl ?_); refine goesL_ (some 13) rfl rfl Try.func38 (by kernel_rfl) rfl #[.string a0, .int .i64 40] rfl (by (try simp only [List.map_toArray, List.map_cons, List.map_nil]); first | done | rfl | (simp only [List.length_drop, List.length_take]; rfl)) ?_; (with_reducible refine (topiarylaw12_short.calls a0 40 t368 _ A3.out).mono ?_); rintro e w' ⟨rfl, ⟨nd, rfl⟩⟩; refine ⟨_, rfl, ?_⟩) | ((with_reducible refine gate_callee (f := 21) rfl ?_); refine goesL_ (some 16) rfl rfl Try.func21 (by kernel_rfl) rfl #[.string t368] rfl (by (try simp only [List.map_toArray, List.map_cons, List.map_nil]); first | done | rfl | (simp only [List.length_drop, List.length_take]; rfl)) ?_; (with_reducible refine (topiaryref11_Escape.calls k t368 t369 _ A4.out).mono ?_); rintro e w' ⟨rfl, ⟨nd, rfl⟩⟩; refine ⟨_, rfl, ?_⟩) | ((with_reducible refine gate_callee (f := 39) rfl ?_); refine goesL_ (some 17) rfl rfl Try.func39 (by kernel_rfl) rfl #[.string t369] rfl (by (try simp only [List.map_toArray, List.map_cons, List.map_nil]); first | done | rfl | (simp only [List.length_drop, List.length_take]; rfl)) ?_; (with_reducible refine (lexer_Lex.calls t369 t370 t371 _ (by first | exact hG | exact G.below hG (by repeat (first | (with_reducible first | exact HB.out | apply below_alloc | apply pw_below_drewN | apply below_drew1) | exact HB.out))) A5.out).mono ?_); rintro e w84 ⟨v372, rfl, ho0, hb⟩; refine ⟨_, rfl, ?_⟩; have n0_ := Aside0.mk (Kd.R_lower ho0 (below_size (by repeat (first | (with_reducible first | exact HB.out | apply below_alloc | apply pw_below_drewN | apply below_drew1) | exact HB.out)))); have n1_ := Aside0.mk (below_step (by repeat (first | (with_reducible first | exact HB.out | apply below_alloc | apply pw_below_drewN | apply below_drew1) | exact HB.out)) hb); clear HB; have HO373 := n0_; have HB := n1_; clear n0_ n1_; (try clear hb); (try clear hb2); (try clear hk); (try clear hi); (try clear ho0)) | ((with_reducible refine gate_callee (f := 39) rfl ?_); refine goesL_ (some 24) rfl rfl Try.func39 (by kernel_rfl) rfl #[.string (((⟨#[60, 33, 91, 67, 68, 65, 84, 65, 91]⟩ : ByteArray) ++ t368) ++ (⟨#[93, 93, 62]⟩ : ByteArray))] rfl (by (try simp only [List.map_toArray, List.map_cons, List.map_nil]); first | done | rfl | (simp only [List.length_drop, List.length_take]; rfl)) ?_; (with_reducible refine (lexer_Lex.calls (((⟨#[60, 33, 91, 67, 68, 65, 84, 65, 91]⟩ : ByteArray) ++ t368) ++ (⟨#[93, 93, 62]⟩ : ByteArray)) t374 t375 _ (by first | exact hG | exact G.below hG (by repeat (first | (with_reducible first | exact HB.out | apply below_alloc | apply pw_below_drewN | apply below_drew1) | exact HB.out))) A8.out).mono ?_); rintro e w85 ⟨v376, rfl, ho0, hb⟩; refine ⟨_, rfl, ?_⟩; have n0_ := Aside0.mk (Kd.R_elder' (by (with_reducible repeat (first | apply Kd.R_alloc | apply Kd.R_drewN | apply Kd.R_drew)); exact HO373.out) (Kd.R_base ho0) hb); have n1_ := Aside0.mk (Kd.R_lower (Kd.R_new' ho0 (Kd.R_lt (by (with_reducible repeat (first | apply Kd.R_alloc | apply Kd.R_drewN | apply Kd.R_drew)); exact HO373.out))) (below_size (by repeat (first | (with_reducible first | exact HB.out | apply below_alloc | apply pw_below_drewN | apply below_drew1) | exact HB.out)))); have n2_ := Aside0.mk (below_step (by repeat (first | (with_reducible first | exact HB.out | apply below_alloc | apply pw_below_drewN | apply below_drew1) | exact HB.out)) hb); clear HO373; clear HB; have HO373 := n0_; have HO377 := n1_; have HB := n2_; clear n0_ n1_ n2_; (try clear hb); (try clear hb2); (try clear hk); (try clear hi); (try clear ho0)) | ((with_reducible refine gate_callee (f := 29) rfl ?_); refine goesL_ (some 28) rfl rfl Try.func29 (by kernel_rfl) rfl #[.string t368] rfl (by (try simp only [List.map_toArray, List.map_cons, List.map_nil]); first | done | rfl | (simp only [List.length_drop, List.length_take]; rfl)) ?_; (with_reducible refine (topiaryref11_Valid.calls k t368 false _ A9.out).mono ?_); rintro e w86 ⟨rfl, hb⟩; refine ⟨_, rfl, ?_⟩; have n0_ := Aside0.mk (Kd.R_below (by (with_reducible repeat (first | apply Kd.R_alloc | apply Kd.R_drewN | apply Kd.R_drew)); exact HO373.out) hb); have n1_ := Aside0.mk (Kd.R_below (by (with_reducible repeat (first | apply Kd.R_alloc | apply Kd.R_drewN | apply Kd.R_drew)); exact HO377.out) hb); have n2_ := Aside0.mk (below_step (by repeat (first | (with_reducible first | exact HB.out | apply below_alloc | apply pw_below_drewN | apply below_drew1) | exact HB.out)) hb); clear HO373; clear HO377; clear HB; have HO373 := n0_; have HO377 := n1_; have HB := n2_; clear n0_ n1_ n2_; (try clear hb); (try clear hb2); (try clear hk); (try clear hi)))
            go_ret
            exact ⟨by first | rfl | (simp [errW_none, errW_some] <;> rfl) | (simp [*, errW_none, errW_some] <;> rfl), by repeat (first | (with_reducible first | exact HB.out | apply below_alloc | apply pw_below_drewN | apply below_drew1) | exact HB.out)⟩
          · rw [if_neg c82] at H
            have c82b0 : (t371 == 15) = false := beq_eq_false_iff_ne.mpr c82
            have c82b1 : (t371 != 15) = true := bne_iff_ne.mpr c82
            obtain rfl := Option.some.inj H
            go_enter Try.func14, Try.ntmps14
            go_wp2_with (first | ((with_reducible refine gate_callee (f := 37) rfl ?_); refine goesL_ (some 11) rfl rfl Try.func37 (by kernel_rfl) rfl #[] rfl (by (try simp only [List.map_toArray, List.map_cons, List.map_nil]); first | done | rfl | (simp only [List.length_drop, List.length_take]; rfl)) ?_; (with_reducible refine (topiarylaw12_awake.calls  true _ (by first | exact hG | exact G.below hG (by repeat (first | (with_reducible first | exact HB.out | apply below_alloc | apply pw_below_drewN | apply below_drew1) | exact HB.out))) A2.out).mono ?_); rintro e w87 ⟨rfl, hb⟩; refine ⟨_, rfl, ?_⟩; have n0_ := Aside0.mk (below_step (by repeat (first | (with_reducible first | exact HB.out | apply below_alloc | apply pw_below_drewN | apply below_drew1) | exact HB.out)) hb); clear HB; have HB := n0_; clear n0_; (try clear hb); (try clear hb2); (try clear hk); (try clear hi)) | ((with_reducible refine gate_callee (f := 38) rfl ?_); refine goesL_ (some 13) rfl rfl Try.func38 (by kernel_rfl) rfl #[.string a0, .int .i64 40] rfl (by (try simp only [List.map_toArray, List.map_cons, List.map_nil]); first | done | rfl | (simp only [List.length_drop, List.length_take]; rfl)) ?_; (with_reducible refine (topiarylaw12_short.calls a0 40 t368 _ A3.out).mono ?_); rintro e w' ⟨rfl, ⟨nd, rfl⟩⟩; refine ⟨_, rfl, ?_⟩) | ((with_reducible refine gate_callee (f := 21) rfl ?_); refine goesL_ (some 16) rfl rfl Try.func21 (by kernel_rfl) rfl #[.string t368] rfl (by (try simp only [List.map_toArray, List.map_cons, List.map_nil]); first | done | rfl | (simp only [List.length_drop, List.length_take]; rfl)) ?_; (with_reducible refine (topiaryref11_Escape.calls k t368 t369 _ A4.out).mono ?_); rintro e w' ⟨rfl, ⟨nd, rfl⟩⟩; refine ⟨_, rfl, ?_⟩) | ((with_reducible refine gate_callee (f := 39) rfl ?_); refine goesL_ (some 17) rfl rfl Try.func39 (by kernel_rfl) rfl #[.string t369] rfl (by (try simp only [List.map_toArray, List.map_cons, List.map_nil]); first | done | rfl | (simp only [List.length_drop, List.length_take]; rfl)) ?_; (with_reducible refine (lexer_Lex.calls t369 t370 t371 _ (by first | exact hG | exact G.below hG (by repeat (first | (with_reducible first | exact HB.out | apply below_alloc | apply pw_below_drewN | apply below_drew1) | exact HB.out))) A5.out).mono ?_); rintro e w88 ⟨v372, rfl, ho0, hb⟩; refine ⟨_, rfl, ?_⟩; have n0_ := Aside0.mk (Kd.R_lower ho0 (below_size (by repeat (first | (with_reducible first | exact HB.out | apply below_alloc | apply pw_below_drewN | apply below_drew1) | exact HB.out)))); have n1_ := Aside0.mk (below_step (by repeat (first | (with_reducible first | exact HB.out | apply below_alloc | apply pw_below_drewN | apply below_drew1) | exact HB.out)) hb); clear HB; have HO373 := n0_; have HB := n1_; clear n0_ n1_; (try clear hb); (try clear hb2); (try clear hk); (try clear hi); (try clear ho0)) | ((with_reducible refine gate_callee (f := 39) rfl ?_); refine goesL_ (some 24) rfl rfl Try.func39 (by kernel_rfl) rfl #[.string (((⟨#[60, 33, 91, 67, 68, 65, 84, 65, 91]⟩ : ByteArray) ++ t368) ++ (⟨#[93, 93, 62]⟩ : ByteArray))] rfl (by (try simp only [List.map_toArray, List.map_cons, List.map_nil]); first | done | rfl | (simp only [List.length_drop, List.length_take]; rfl)) ?_; (with_reducible refine (lexer_Lex.calls (((⟨#[60, 33, 91, 67, 68, 65, 84, 65, 91]⟩ : ByteArray) ++ t368) ++ (⟨#[93, 93, 62]⟩ : ByteArray)) t374 t375 _ (by first | exact hG | exact G.below hG (by repeat (first | (with_reducible first | exact HB.out | apply below_alloc | apply pw_below_drewN | apply below_drew1) | exact HB.out))) A8.out).mono ?_); rintro e w89 ⟨v376, rfl, ho0, hb⟩; refine ⟨_, rfl, ?_⟩; have n0_ := Aside0.mk (Kd.R_elder' (by (with_reducible repeat (first | apply Kd.R_alloc | apply Kd.R_drewN | apply Kd.R_drew)); exact HO373.out) (Kd.R_base ho0) hb); have n1_ := Aside0.mk (Kd.R_lower (Kd.R_new' ho0 (Kd.R_lt (by (with_reducible repeat (first | apply Kd.R_alloc | apply Kd.R_drewN | apply Kd.R_drew)); exact HO373.out))) (below_size (by repeat (first | (with_reducible first | exact HB.out | apply below_alloc | apply pw_below_drewN | apply below_drew1) | exact HB.out)))); have n2_ := Aside0.mk (below_step (by repeat (first | (with_reducible first | exact HB.out | apply below_alloc | apply pw_below_drewN | apply below_drew1) | exact HB.out)) hb); clear HO373; clear HB; have HO373 := n0_; have HO377 := n1_; have HB := n2_; clear n0_ n1_ n2_; (try clear hb); (try clear hb2); (try clear hk); (try clear hi); (try clear ho0)) | ((with_reducible refine gate_callee (f := 29) rfl ?_); refine goesL_ (some 28) rfl rfl Try.func29 (by kernel_rfl) rfl #[.string t368] rfl (by (try simp only [List.map_toArray, List.map_cons, List.map_nil]); first | done | rfl | (simp only [List.length_drop, List.length_take]; rfl)) ?_; (with_reducible refine (topiaryref11_Valid.calls k t368 false _ A9.out).mono ?_); rintro e w90 ⟨rfl, hb⟩; refine ⟨_, rfl, ?_⟩; have n0_ := Aside0.mk (Kd.R_below (by (with_reducible repeat (first | apply Kd.R_alloc | apply Kd.R_drewN | apply Kd.R_drew)); exact HO373.out) hb); have n1_ := Aside0.mk (Kd.R_below (by (with_reducible repeat (first | apply Kd.R_alloc | apply Kd.R_drewN | apply Kd.R_drew)); exact HO377.out) hb); have n2_ := Aside0.mk (below_step (by repeat (first | (with_reducible first | exact HB.out | apply below_alloc | apply pw_below_drewN | apply below_drew1) | exact HB.out)) hb); clear HO373; clear HO377; clear HB; have HO373 := n0_; have HO377 := n1_; have HB := n2_; clear n0_ n1_ n2_; (try clear hb); (try clear hb2); (try clear hk); (try clear hi)))
            go_ret
            exact ⟨by first | rfl | (simp [errW_none, errW_some] <;> rfl) | (simp [*, errW_none, errW_some] <;> rfl), by repeat (first | (with_reducible first | exact HB.out | apply below_alloc | apply pw_below_drewN | apply below_drew1) | exact HB.out)⟩
        · replace c81 := Bool.eq_false_iff.mpr c81
          subst c81
          have H1 : (some false) = some r := by rw [if_neg (show ¬ (false = true) by decide)] at H; exact H
          clear H
          have H := H1
          clear H1
          obtain rfl := Option.some.inj H
          go_enter Try.func14, Try.ntmps14
          go_wp2_with (first | ((with_reducible refine gate_callee (f := 37) rfl ?_); refine goesL_ (some 11) rfl rfl Try.func37 (by kernel_rfl) rfl #[] rfl (by (try simp only [List.map_toArray, List.map_cons, List.map_nil]); first | done | rfl | (simp only [List.length_drop, List.length_take]; rfl)) ?_; (with_reducible refine (topiarylaw12_awake.calls  false _ (by first | exact hG | exact G.below hG (by repeat (first | (with_reducible first | exact HB.out | apply below_alloc | apply pw_below_drewN | apply below_drew1) | exact HB.out))) A2.out).mono ?_); rintro e w91 ⟨rfl, hb⟩; refine ⟨_, rfl, ?_⟩; have n0_ := Aside0.mk (below_step (by repeat (first | (with_reducible first | exact HB.out | apply below_alloc | apply pw_below_drewN | apply below_drew1) | exact HB.out)) hb); clear HB; have HB := n0_; clear n0_; (try clear hb); (try clear hb2); (try clear hk); (try clear hi)) | ((with_reducible refine gate_callee (f := 38) rfl ?_); refine goesL_ (some 13) rfl rfl Try.func38 (by kernel_rfl) rfl #[.string a0, .int .i64 40] rfl (by (try simp only [List.map_toArray, List.map_cons, List.map_nil]); first | done | rfl | (simp only [List.length_drop, List.length_take]; rfl)) ?_; (with_reducible refine (topiarylaw12_short.calls a0 40 t368 _ A3.out).mono ?_); rintro e w' ⟨rfl, ⟨nd, rfl⟩⟩; refine ⟨_, rfl, ?_⟩) | ((with_reducible refine gate_callee (f := 21) rfl ?_); refine goesL_ (some 16) rfl rfl Try.func21 (by kernel_rfl) rfl #[.string t368] rfl (by (try simp only [List.map_toArray, List.map_cons, List.map_nil]); first | done | rfl | (simp only [List.length_drop, List.length_take]; rfl)) ?_; (with_reducible refine (topiaryref11_Escape.calls k t368 t369 _ A4.out).mono ?_); rintro e w' ⟨rfl, ⟨nd, rfl⟩⟩; refine ⟨_, rfl, ?_⟩) | ((with_reducible refine gate_callee (f := 39) rfl ?_); refine goesL_ (some 17) rfl rfl Try.func39 (by kernel_rfl) rfl #[.string t369] rfl (by (try simp only [List.map_toArray, List.map_cons, List.map_nil]); first | done | rfl | (simp only [List.length_drop, List.length_take]; rfl)) ?_; (with_reducible refine (lexer_Lex.calls t369 t370 t371 _ (by first | exact hG | exact G.below hG (by repeat (first | (with_reducible first | exact HB.out | apply below_alloc | apply pw_below_drewN | apply below_drew1) | exact HB.out))) A5.out).mono ?_); rintro e w92 ⟨v372, rfl, ho0, hb⟩; refine ⟨_, rfl, ?_⟩; have n0_ := Aside0.mk (Kd.R_lower ho0 (below_size (by repeat (first | (with_reducible first | exact HB.out | apply below_alloc | apply pw_below_drewN | apply below_drew1) | exact HB.out)))); have n1_ := Aside0.mk (below_step (by repeat (first | (with_reducible first | exact HB.out | apply below_alloc | apply pw_below_drewN | apply below_drew1) | exact HB.out)) hb); clear HB; have HO373 := n0_; have HB := n1_; clear n0_ n1_; (try clear hb); (try clear hb2); (try clear hk); (try clear hi); (try clear ho0)) | ((with_reducible refine gate_callee (f := 39) rfl ?_); refine goesL_ (some 24) rfl rfl Try.func39 (by kernel_rfl) rfl #[.string (((⟨#[60, 33, 91, 67, 68, 65, 84, 65, 91]⟩ : ByteArray) ++ t368) ++ (⟨#[93, 93, 62]⟩ : ByteArray))] rfl (by (try simp only [List.map_toArray, List.map_cons, List.map_nil]); first | done | rfl | (simp only [List.length_drop, List.length_take]; rfl)) ?_; (with_reducible refine (lexer_Lex.calls (((⟨#[60, 33, 91, 67, 68, 65, 84, 65, 91]⟩ : ByteArray) ++ t368) ++ (⟨#[93, 93, 62]⟩ : ByteArray)) t374 t375 _ (by first | exact hG | exact G.below hG (by repeat (first | (with_reducible first | exact HB.out | apply below_alloc | apply pw_below_drewN | apply below_drew1) | exact HB.out))) A8.out).mono ?_); rintro e w93 ⟨v376, rfl, ho0, hb⟩; refine ⟨_, rfl, ?_⟩; have n0_ := Aside0.mk (Kd.R_elder' (by (with_reducible repeat (first | apply Kd.R_alloc | apply Kd.R_drewN | apply Kd.R_drew)); exact HO373.out) (Kd.R_base ho0) hb); have n1_ := Aside0.mk (Kd.R_lower (Kd.R_new' ho0 (Kd.R_lt (by (with_reducible repeat (first | apply Kd.R_alloc | apply Kd.R_drewN | apply Kd.R_drew)); exact HO373.out))) (below_size (by repeat (first | (with_reducible first | exact HB.out | apply below_alloc | apply pw_below_drewN | apply below_drew1) | exact HB.out)))); have n2_ := Aside0.mk (below_step (by repeat (first | (with_reducible first | exact HB.out | apply below_alloc | apply pw_below_drewN | apply below_drew1) | exact HB.out)) hb); clear HO373; clear HB; have HO373 := n0_; have HO377 := n1_; have HB := n2_; clear n0_ n1_ n2_; (try clear hb); (try clear hb2); (try clear hk); (try clear hi); (try clear ho0)) | ((with_reducible refine gate_callee (f := 29) rfl ?_); refine goesL_ (some 28) rfl rfl Try.func29 (by kernel_rfl) rfl #[.string t368] rfl (by (try simp only [List.map_toArray, List.map_cons, List.map_nil]); first | done | rfl | (simp only [List.length_drop, List.length_take]; rfl)) ?_; (with_reducible refine (topiaryref11_Valid.calls k t368 false _ A9.out).mono ?_); rintro e w94 ⟨rfl, hb⟩; refine ⟨_, rfl, ?_⟩; have n0_ := Aside0.mk (Kd.R_below (by (with_reducible repeat (first | apply Kd.R_alloc | apply Kd.R_drewN | apply Kd.R_drew)); exact HO373.out) hb); have n1_ := Aside0.mk (Kd.R_below (by (with_reducible repeat (first | apply Kd.R_alloc | apply Kd.R_drewN | apply Kd.R_drew)); exact HO377.out) hb); have n2_ := Aside0.mk (below_step (by repeat (first | (with_reducible first | exact HB.out | apply below_alloc | apply pw_below_drewN | apply below_drew1) | exact HB.out)) hb); clear HO373; clear HO377; clear HB; have HO373 := n0_; have HO377 := n1_; have HB := n2_; clear n0_ n1_ n2_; (try clear hb); (try clear hb2); (try clear hk); (try clear hi)))
          go_ret
          exact ⟨by first | rfl | (simp [errW_none, errW_some] <;> rfl) | (simp [*, errW_none, errW_some] <;> rfl), by repeat (first | (with_reducible first | exact HB.out | apply below_alloc | apply pw_below_drewN | apply below_drew1) | exact HB.out)⟩
    · rw [if_neg c7] at H
      exact absurd H (by simp)
  · rw [if_neg c6] at H
    exact absurd H (by simp)
def topiarylaw12_LexerTexts.Pure : Prop := ∀ (a0 : ByteArray), a0.size ≤ 140737488351232 → ∃ k, topiarylaw12_LexerTexts.f k a0 = some true
theorem topiarylaw12_LexerTexts.walk (P : topiarylaw12_LexerTexts.Pure) (a0 : ByteArray) (w : World) (hG : G w) (w0 : a0.size ≤ 140737488351232) :
    Calls Try.prog 14 #[.string a0] w fun e w' => e = .returned (.bool true) ∧ Below w.heap.size w w' := by
  obtain ⟨k, h⟩ := P a0 w0
  refine (topiarylaw12_LexerTexts.calls k a0 true w hG h).mono ?_
  rintro e w' ⟨rfl, hd⟩
  exact ⟨rfl, hd⟩
end Go.Proofs.Ytekkaoenabjeiaa.Q
end
section
set_option linter.unusedVariables false
set_option linter.unusedSimpArgs false
namespace Go.Proofs.Ytekkaoenabjeiaa.Pure
open Go Go.RowKit Go.Proofs.Ytekkaoenabjeiaa Go.Proofs.Ytekkaoenabjeiaa.Q Go.Proofs.YtekkaoenabjeiaaW.PrintWords Go.Proofs.Ytekkaoenabjeiaa.X Go.Proofs.Ytekkaoenabjeiaa.P11 Go.Proofs.Ytekkaoenabjeiaa.P12
theorem twr (n : Int) (h0 : -9223372036854775808 ≤ n) (h1 : n ≤ 9223372036854775807) : wrap64 n = n := by unfold wrap64; omega
theorem tapp_list (d e : ByteArray) : (d ++ e).data.toList = d.data.toList ++ e.data.toList := by simp
theorem tapp_size (d e : ByteArray) : (d ++ e).size = d.size + e.size := by rw [Lib.size_eq, tapp_list, List.length_append, ← Lib.size_eq, ← Lib.size_eq]
theorem ends_at (s : ByteArray) (i : Nat) (h : i + 3 ≤ s.size + 3) : (((s ++ (⟨#[93, 93, 62]⟩ : ByteArray)).extract (i : Int).toNat ((i : Int) + 3).toNat).toList = ([93, 93, 62] : List UInt8)) ↔ Lib.occAt (s.data.toList ++ [93, 93, 62]) [93, 93, 62] i = true := by
  rw [Lib.extract_toList, tapp_list, show ((i : Int) + 3).toNat - (i : Int).toNat = 3 from by omega, Int.toNat_natCast]
  unfold Lib.occAt
  show List.take 3 (List.drop i (s.data.toList ++ [93, 93, 62])) = _ ↔ _
  rw [List.isPrefixOf_iff_prefix, List.prefix_iff_eq_take]
  exact eq_comm
theorem texts_l0 (s : ByteArray) (hs : s.size ≤ 40) (n : Int) (m : List Tok) (f : Int) (p : Int)
    (hM : (∀ j, j < s.size → Lib.occAt (s.data.toList ++ [93, 93, 62]) [93, 93, 62] j = false) → f = 0 ∧ m = [⟨6, 0, p, ⟨#[]⟩, s⟩]) (d : Nat) : ∀ (i k : Nat) (ends : Bool), s.size - i ≤ d → d + 1 ≤ k → i ≤ s.size →
    (ends = false → ∀ j, j < i → j < s.size → Lib.occAt (s.data.toList ++ [93, 93, 62]) [93, 93, 62] j = false) →
    topiarylaw12_LexerTexts.l0 k s true [⟨6, 0, n, ⟨#[]⟩, s⟩] 0 m f ends i = some true := by
  have hlast : ∀ (i k : Nat) (ends : Bool), s.size ≤ i → i ≤ 100 → (ends = false → ∀ j, j < i → j < s.size → Lib.occAt (s.data.toList ++ [93, 93, 62]) [93, 93, 62] j = false) →
      topiarylaw12_LexerTexts.l0 (k + 1) s true [⟨6, 0, n, ⟨#[]⟩, s⟩] 0 m f ends i = some true := by
    intro i k ends hi h100 he
    rw [topiarylaw12_LexerTexts.l0, twr _ (by omega) (by omega), twr _ (by omega) (by omega), if_neg (by omega), if_pos rfl, if_pos rfl, if_pos (by rfl), if_pos (by show (0 : Int) < 1; omega), if_pos (by rfl), if_pos (by rfl)]
    cases ends with
    | true => rw [if_pos rfl]
    | false =>
      obtain ⟨rfl, rfl⟩ := hM (fun j hj => he rfl j (by omega) hj)
      rw [if_neg (by decide), if_pos rfl, if_pos (by rfl), if_pos (by show (0 : Int) < 1; omega), if_pos (by rfl)]
      rfl
  induction d with
  | zero =>
    intro i k ends hd hk hi he
    obtain ⟨k, rfl⟩ : ∃ j, k = j + 1 := ⟨k - 1, by omega⟩
    exact hlast i k ends (by omega) (by omega) he
  | succ d ih =>
    intro i k ends hd hk hi' he
    obtain ⟨k, rfl⟩ : ∃ j, k = j + 1 := ⟨k - 1, by omega⟩
    by_cases hi : i < s.size
    · rw [topiarylaw12_LexerTexts.l0, twr _ (by omega) (by omega), twr _ (by omega) (by omega), if_pos (by omega), if_pos (by omega), twr _ (by omega) (by omega), show (i : Int) + 1 = ((i + 1 : Nat) : Int) from by omega]
      cases ends with
      | true =>
        rw [if_pos rfl]
        exact ih (i + 1) k true (by omega) (by omega) (by omega) (fun h => by cases h)
      | false =>
        rw [if_neg (by decide), if_pos (by omega), if_pos (by omega), if_pos (by rw [tapp_size, show (⟨#[93, 93, 62]⟩ : ByteArray).size = 3 from rfl]; omega)]
        by_cases c : Lib.occAt (s.data.toList ++ [93, 93, 62]) [93, 93, 62] i = true
        · rw [if_pos ((ends_at s i (by omega)).2 c), decide_eq_true (by omega)]
          exact ih (i + 1) k true (by omega) (by omega) (by omega) (fun h => by cases h)
        · rw [if_neg (fun h => c ((ends_at s i (by omega)).1 h))]
          refine ih (i + 1) k false (by omega) (by omega) (by omega) (fun _ j hj hjs => ?_)
          by_cases hji : j = i
          · subst hji; simpa using c
          · exact he rfl j (by omega) hjs
    · exact hlast i k ends (by omega) (by omega) he
theorem LexerTexts : topiarylaw12_LexerTexts.Pure := by
  intro s0 _
  obtain ⟨s, hs, hsz, _⟩ := short12 s0 40
  rw [show ((40 : Nat) : Int) = 40 from rfl] at hs
  refine ⟨s.size + 50 + 100, ?_⟩
  unfold topiarylaw12_LexerTexts.f
  obtain ⟨E, hE⟩ : ∃ E : ByteArray, (⟨(escL s.data.toList).toArray⟩ : ByteArray) = E := ⟨_, rfl⟩
  have hEl : E.data.toList = escL s.data.toList := by rw [← hE]
  have hEs : E.size ≤ 240 := by
    have := escL_len s.data.toList
    rw [Lib.size_eq, hEl]
    rw [← Lib.size_eq] at this
    omega
  obtain ⟨D, hD⟩ : ∃ D : ByteArray, ((⟨#[60, 33, 91, 67, 68, 65, 84, 65, 91]⟩ : ByteArray) ++ s) ++ (⟨#[93, 93, 62]⟩ : ByteArray) = D := ⟨_, rfl⟩
  have hDl : D.data.toList = [60, 33, 91, 67, 68, 65, 84, 65, 91] ++ s.data.toList ++ [93, 93, 62] := by rw [← hD, tapp_list, tapp_list]
  have hDs : D.size = s.size + 12 := by
    rw [Lib.size_eq, hDl, List.length_append, List.length_append, ← Lib.size_eq]
    simp; omega
  have he := ref_escape_f s (by omega) (149)
  rw [show s.size + 1 + 149 = s.size + 50 + 100 from by omega, hE] at he
  have hv := ref_valid_f s (by omega) 100
  rw [awake12, Option.bind_some, hs, Option.bind_some, he, Option.bind_some, lexer_Lex.f, if_pos (by omega), Option.bind_some, if_pos (by omega), if_pos (by rw [tapp_size, show (⟨#[60, 33, 91, 67, 68, 65, 84, 65, 91]⟩ : ByteArray).size = 9 from rfl]; omega),
    hD, lexer_Lex.f, if_pos (by omega), Option.bind_some, hv, Option.bind_some, esc_lex s E hEl (by omega)]
  obtain ⟨p1, p2⟩ := plain_lex s D hDl (by omega)
  cases c : validL s.data.toList with
  | false =>
    rw [if_neg (by decide), if_pos rfl, if_pos (by rfl), p1 c]
    rfl
  | true =>
    rw [if_pos rfl, if_pos rfl]
    by_cases e : s.data.toList = []
    · rw [Lib.toList_data, if_pos e, if_pos e, if_pos rfl, if_pos (by rfl), if_pos (by rfl)]
      have hz : s.size = 0 := by rw [Lib.size_eq, e]; rfl
      have hs0 : s = ⟨#[]⟩ := by
        apply ByteArray.ext; apply Array.ext'
        rw [e]
      rw [p2 c (fun j hj => by omega), if_pos (by rfl), if_pos (by rfl), if_pos (by show (0 : Int) < 1; omega)]
      show some (s.toList == []) = some true
      rw [Lib.toList_data, e]
      rfl
    · rw [Lib.toList_data, if_neg e, if_neg e]
      exact texts_l0 s hsz _ _ _ D.size (fun ho => by rw [p2 c ho]; exact ⟨rfl, rfl⟩) s.size 0 _ false (by omega) (by omega) (by omega) (fun _ j hj => by omega)
end Go.Proofs.Ytekkaoenabjeiaa.Pure
end
section
set_option linter.unusedVariables false
set_option linter.unusedSimpArgs false
namespace Go.Proofs.Ytekkaoenabjeiaa.PureLimit
open Go Go.RowKit Go.Proofs.Ytekkaoenabjeiaa Go.Proofs.Ytekkaoenabjeiaa.Q Go.Proofs.YtekkaoenabjeiaaW.PrintWords Go.Proofs.Ytekkaoenabjeiaa.X Go.Proofs.Ytekkaoenabjeiaa.P11 Go.Proofs.Ytekkaoenabjeiaa.P12
theorem valid_spaces : ∀ n : Nat, validL (List.replicate n (32 : UInt8)) = true
  | 0 => rfl
  | n + 1 => by
    rw [List.replicate_succ, valid_cons]
    have hd : decL ((32 : UInt8) :: List.replicate n 32) = (32, 1) := by
      have := dec_enc 32 (by decide) (List.replicate n 32)
      exact this
    rw [hd]
    show (decide ((0 : Int) < 1) && allowedB 32 && validL ((32 :: List.replicate n 32).drop 1)) = true
    rw [List.drop_succ_cons, List.drop_zero, valid_spaces n]; decide
theorem stands_not (s : ByteArray) (n : Nat) (h : s.data.toList = List.replicate n (32 : UInt8)) (c : UInt8) (t : List UInt8) (hc : ¬ c = 32) : standsB s 0 ⟨(c :: t).toArray⟩ = false := by
  unfold standsB Lib.hasPrefix
  rw [h]
  cases n with
  | zero => rfl
  | succ n =>
    show (c :: t).isPrefixOf ((List.replicate (n + 1) (32 : UInt8)).drop 0) = false
    rw [List.drop_zero, List.replicate_succ]
    simp [List.isPrefixOf, hc]
theorem index_not : ∀ (n : Nat), Lib.index (List.replicate n (32 : UInt8)) [60] = -1
  | 0 => rfl
  | n + 1 => by
    rw [List.replicate_succ]
    show (if ([60] : List UInt8).isPrefixOf (32 :: List.replicate n 32) then _ else if Lib.index (List.replicate n 32) [60] == -1 then _ else _) = _
    rw [index_not n]; rfl
theorem spaces_lex (s : ByteArray) (h : s.data.toList = List.replicate 65536 (32 : UInt8)) : lexV s = ([⟨6, 0, 65536, ⟨#[]⟩, s⟩], 0) := by
  have hsz : s.size = 65536 := by rw [Lib.size_eq, h, List.length_replicate]
  have hs' : (⟨(List.replicate 65536 (32 : UInt8)).toArray⟩ : ByteArray) = s := by rw [← h]
  have hdec : dec (List.replicate 65536 (32 : UInt8)) = some (List.replicate 65536 (32 : UInt8)) := by
    have := dec_plain (List.replicate 65536 (32 : UInt8)) [] (fun c hc => by rw [(List.mem_replicate.1 hc).2]; decide)
    rw [List.append_nil, dec_nil] at this
    rw [this]
    show some (_ ++ []) = _
    rw [List.append_nil]
  have hcut : (Lib.cut (List.replicate 65536 (32 : UInt8)) [60]).1 = List.replicate 65536 (32 : UInt8) := by
    unfold Lib.cut
    rw [index_not, if_neg (by omega)]
  have hstep : stepP s 0 = some ([⟨6, 0, 65536, ⟨#[]⟩, s⟩], 65536) := by
    unfold stepP
    rw [if_neg (by rw [show (⟨#[60, 33, 45, 45]⟩ : ByteArray) = ⟨([60, 33, 45, 45] : List UInt8).toArray⟩ from rfl, stands_not s 65536 h 60 _ (by decide)]; decide),
      if_neg (by rw [show (⟨#[60, 33, 91, 67, 68, 65, 84, 65, 91]⟩ : ByteArray) = ⟨([60, 33, 91, 67, 68, 65, 84, 65, 91] : List UInt8).toArray⟩ from rfl, stands_not s 65536 h 60 _ (by decide)]; decide),
      if_neg (by rw [show (⟨#[60, 47]⟩ : ByteArray) = ⟨([60, 47] : List UInt8).toArray⟩ from rfl, stands_not s 65536 h 60 _ (by decide)]; decide),
      if_neg (by rw [show (⟨#[60]⟩ : ByteArray) = ⟨([60] : List UInt8).toArray⟩ from rfl, stands_not s 65536 h 60 _ (by decide)]; decide)]
    unfold textP
    rw [show (0 : Int).toNat = 0 from rfl, List.drop_zero, h]
    simp only [hcut, hdec, List.length_replicate, hs']
    rfl
  unfold lexV
  rw [if_neg (by omega), if_neg (by rw [h, valid_spaces]; decide)]
  unfold lexO
  rw [hsz]
  have h1 : lexF s (65535 + 1 + 1) 0 [] = some [⟨6, 0, 65536, ⟨#[]⟩, s⟩] := by
    rw [lexF, if_pos (by omega), hstep]
    simp only [List.nil_append]
    rw [lexF, if_neg (by omega)]
  rw [show 65536 + 1 = 65535 + 1 + 1 from rfl, h1]
theorem fill_l0 (x4 : Int) (n : Nat) (hn : n ≤ 4294967296) (d : Nat) : ∀ (i k : Nat), n - i = d → i ≤ n → d + 1 ≤ k →
    topiarylaw12_LexerLimit.l0 k true x4 (List.replicate i 32 ++ List.replicate (n - i) 0) i = topiarylaw12_LexerLimit.l0 1 true x4 (List.replicate n 32) n := by
  have hmono : ∀ (j : Nat), topiarylaw12_LexerLimit.l0 (j + 1) true x4 (List.replicate n 32) n = topiarylaw12_LexerLimit.l0 1 true x4 (List.replicate n 32) n := by
    intro j
    rw [topiarylaw12_LexerLimit.l0, topiarylaw12_LexerLimit.l0, List.length_replicate, if_neg (by omega), if_neg (by omega)]
  induction d with
  | zero =>
    intro i k hd hi hk
    have : i = n := by omega
    subst this
    obtain ⟨k, rfl⟩ : ∃ j, k = j + 1 := ⟨k - 1, by omega⟩
    rw [Nat.sub_self, List.replicate_zero, List.append_nil]
    exact hmono k
  | succ d ih =>
    intro i k hd hi hk
    obtain ⟨k, rfl⟩ : ∃ j, k = j + 1 := ⟨k - 1, by omega⟩
    rw [topiarylaw12_LexerLimit.l0]
    rw [List.length_append, List.length_replicate, List.length_replicate, if_pos (by omega), if_pos (by omega), cwr _ (by omega) (by omega), show ((i : Nat) : Int).toNat = i from by omega]
    have hset : (List.replicate i (32 : Int) ++ List.replicate (n - i) 0).set i 32 = List.replicate (i + 1) 32 ++ List.replicate (n - (i + 1)) 0 := by
      rw [List.set_append_right _ _ (by simp), List.length_replicate, Nat.sub_self, show n - i = (n - (i + 1)) + 1 from by omega, List.replicate_succ, List.set_cons_zero, List.replicate_succ']
      simp
    rw [hset, show ((i : Nat) : Int) + 1 = ((i + 1 : Nat) : Int) from by omega]
    exact ih (i + 1) k (by omega) (by omega) (by omega)
theorem limit_j0 (m : Nat) (hm : m ≤ 3) (k : Nat) (hk : 70000 ≤ k) : topiarylaw12_LexerLimit.j0 k true m = some true := by
  obtain ⟨k, rfl⟩ : ∃ j, k = j + 1 := ⟨k - 1, by omega⟩
  rw [topiarylaw12_LexerLimit.j0, cwr _ (by omega) (by omega), if_pos (by omega), if_pos (by omega), show ((65536 : Int) + (m : Int)).toNat = 65536 + m from by omega]
  have hf := fill_l0 m (65536 + m) (by omega) (65536 + m) 0 k (by omega) (by omega) (by omega)
  rw [List.replicate_zero, List.nil_append, Nat.sub_zero] at hf
  rw [show ((0 : Nat) : Int) = 0 from rfl] at hf
  rw [hf, topiarylaw12_LexerLimit.l0, List.length_replicate, if_neg (by omega)]
  have hstr : (strOfNums (List.replicate (65536 + m) (32 : Int))).data.toList = List.replicate (65536 + m) (32 : UInt8) := by
    rw [cstr_nums]
    show ((List.replicate (65536 + m) (32 : Int)).map byteI).toArray.toList = _
    rw [List.map_replicate]; rfl
  have hsz : (strOfNums (List.replicate (65536 + m) (32 : Int))).size = 65536 + m := by rw [Lib.size_eq, hstr, List.length_replicate]
  rw [lexer_Lex.f, if_pos (by omega), Option.bind_some]
  by_cases h : (m : Int) > 0
  · have e : lexV (strOfNums (List.replicate (65536 + m) (32 : Int))) = ([], 18) := by
      unfold lexV
      rw [if_pos (by omega)]
    rw [if_pos h, if_pos rfl, e, if_pos rfl]
    rfl
  · have : m = 0 := by omega
    subst this
    rw [if_neg h, if_pos rfl, spaces_lex _ hstr, if_pos (by rfl), if_pos (by rfl), if_pos (by show (0 : Int) < 1; omega)]
    show some (((strOfNums (List.replicate (65536 + 0) (32 : Int))).size : Int) == 65536) = some true
    rw [hsz]; rfl
end Go.Proofs.Ytekkaoenabjeiaa.PureLimit
namespace Go.Proofs.Ytekkaoenabjeiaa.Pure
open Go Go.RowKit Go.Proofs.Ytekkaoenabjeiaa Go.Proofs.Ytekkaoenabjeiaa.Q Go.Proofs.YtekkaoenabjeiaaW.PrintWords Go.Proofs.Ytekkaoenabjeiaa.X Go.Proofs.Ytekkaoenabjeiaa.P11 Go.Proofs.Ytekkaoenabjeiaa.P12 Go.Proofs.Ytekkaoenabjeiaa.PureLimit
theorem LexerLimit : topiarylaw12_LexerLimit.Pure := by
  intro a hw
  refine ⟨80000, ?_⟩
  unfold topiarylaw12_LexerLimit.f
  rw [awake12, Option.bind_some]
  have h1 : -4 < Int.tmod a 4 := Int.lt_tmod_of_pos a (by decide)
  have h2 : Int.tmod a 4 < 4 := Int.tmod_lt_of_pos a (by decide)
  by_cases h : Int.tmod a 4 < 0
  · rw [if_pos h, cwr _ (by omega) (by omega)]
    have := limit_j0 (-(Int.tmod a 4)).toNat (by omega) 80000 (by omega)
    rw [show (((-(Int.tmod a 4)).toNat : Nat) : Int) = -(Int.tmod a 4) from by omega] at this
    exact this
  · rw [if_neg h]
    have := limit_j0 (Int.tmod a 4).toNat (by omega) 80000 (by omega)
    rw [show (((Int.tmod a 4).toNat : Nat) : Int) = Int.tmod a 4 from by omega] at this
    exact this
end Go.Proofs.Ytekkaoenabjeiaa.Pure
end
