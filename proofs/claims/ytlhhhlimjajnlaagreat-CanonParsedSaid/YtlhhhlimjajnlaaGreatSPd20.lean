/- Parts of the proof of canonParsed_holds, kept and merged by a program of mine (wip/tools/slim.py) out of my texts: Q11 Q12 Q13 -/
import Derived.Test.YtlhhhlimjajnlaaGreatSPd0
import Derived.Test.YtlhhhlimjajnlaaGreatSPd4
section
namespace Go.Proofs.YtlhhhlimjajnlaaGreat.X
end Go.Proofs.YtlhhhlimjajnlaaGreat.X
namespace Go.Proofs.YtlhhhlimjajnlaaGreat.Q
open Go.RowKit Go.Proofs.YtlhhhlimjajnlaaGreatW.PrintWords Go.Proofs.YtlhhhlimjajnlaaGreatW.PrintLast Go.Proofs.YtlhhhlimjajnlaaGreatW.PrintMore
attribute [local go_sem] max2_int min2_int max_two min_two max_three min_three max_four min_four   
open Go.Proofs.YtlhhhlimjajnlaaGreat.X
set_option linter.unusedVariables false
set_option linter.unusedSimpArgs false
mutual
def R1_Rune.j0 : Nat → ByteArray → Int → Bool → Option (Int × Int)
 | 0, _, _, _ => none
 | k + 1, x0, x1, x19 => if x19 = true then (some ((-1), 0)) else (R1_Rune.l0 k x0 x1 1)
def R1_Rune.l0 : Nat → ByteArray → Int → Int → Option (Int × Int)
 | 0, _, _, _ => none
 | k + 1, x0, x1, x6 => if x6 ≤ 4 then (R1_Rune.j2 k x0 x1 x6 (decide (x6 ≤ (wrap64 ((x0.size : Int) - x1))))) else (R1_Rune.j2 k x0 x1 x6 false)
def R1_Rune.j2 : Nat → ByteArray → Int → Int → Bool → Option (Int × Int)
 | 0, _, _, _, _ => none
 | k + 1, x0, x1, x6, x29 => if x29 = true then (R1_Rune.l1 k x0 x1 x6 0 0) else (some ((-1), 0))
def R1_Rune.l1 : Nat → ByteArray → Int → Int → Int → Int → Option (Int × Int)
 | 0, _, _, _, _, _ => none
 | k + 1, x0, x1, x6, x7, x8 => if x8 < x6 then (if 0 ≤ (wrap64 (x1 + x8)) then (if (wrap64 (x1 + x8)) < (x0.size : Int) then (if x8 = 0 then (if x6 = 2 then (R1_Rune.j4 k x0 x1 x6 x8 (wrap64 (bt x0 (wrap64 (x1 + x8)))) 192) else (R1_Rune.j4 k x0 x1 x6 x8 (wrap64 (bt x0 (wrap64 (x1 + x8)))) 0)) else (R1_Rune.l1 k x0 x1 x6 (wrap64 ((wrap64 ((wrap64 (x7 * 64)) + (wrap64 (bt x0 (wrap64 (x1 + x8)))))) - 128)) (wrap64 (x8 + 1)))) else (none)) else (none)) else ((R1_Encode.f x7).bind fun t167 => (if t167.toList = ([] : List UInt8) then (R1_Rune.l0 k x0 x1 (wrap64 (x6 + 1))) else (if 0 ≤ x1 then (if x1 ≤ (wrap64 (x1 + x6)) then (if (wrap64 (x1 + x6)) ≤ (x0.size : Int) then (if t167.toList = (x0.extract (x1 : Int).toNat ((wrap64 (x1 + x6)) : Int).toNat).toList then (some (x7, x6)) else (R1_Rune.l0 k x0 x1 (wrap64 (x6 + 1)))) else (none)) else (none)) else (none))))
def R1_Rune.j4 : Nat → ByteArray → Int → Int → Int → Int → Int → Option (Int × Int)
 | 0, _, _, _, _, _, _ => none
 | k + 1, x0, x1, x6, x8, x9, x10 => if x6 = 3 then (if x6 = 4 then (R1_Rune.l1 k x0 x1 x6 (wrap64 (x9 - 240)) (wrap64 (x8 + 1))) else (R1_Rune.l1 k x0 x1 x6 (wrap64 (x9 - 224)) (wrap64 (x8 + 1)))) else (if x6 = 4 then (R1_Rune.l1 k x0 x1 x6 (wrap64 (x9 - 240)) (wrap64 (x8 + 1))) else (R1_Rune.l1 k x0 x1 x6 (wrap64 (x9 - x10)) (wrap64 (x8 + 1))))
end
def R1_Rune.f (k : Nat) (a0 : ByteArray) (a1 : Int) : Option (Int × Int) := if a1 < 0 then (R1_Rune.j0 k a0 a1 true) else (R1_Rune.j0 k a0 a1 (decide (a1 ≥ (a0.size : Int))))
set_option maxHeartbeats 8000000 in
set_option maxRecDepth 100000 in
theorem R1_Rune.calls (k : Nat) (a0 : ByteArray) (a1 : Int) (r1 : Int) (r2 : Int) (w : World) (h : R1_Rune.f k a0 a1 = some (r1, r2)) :
 Calls Tryz.prog 91 #[.string a0, .int .i64 a1] w fun e w' => e = .returned (.tuple #[.int .i64 r1, .int .i64 r2]) ∧ Below w.heap.size w w' := by
 have HB := Aside0.mk (Below.refl w.heap.size w)
 have H : (if a1 < 0 then (R1_Rune.j0 k a0 a1 true) else (R1_Rune.j0 k a0 a1 (decide (a1 ≥ (a0.size : Int))))) = some (r1, r2) := h
 clear h
 have HC3 := Aside0.mk H
 clear H
 go_enter Tryz.func91, Tryz.ntmps91
 go_upto_region 1 with (fail)
 go_cut [19] (fun v19 wc => ∃ (kq : Nat) (x19_2 : Bool), v19 = .bool x19_2 ∧ Aside0 (R1_Rune.j0 kq a0 a1 x19_2 = some (r1, r2)) ∧ Aside0 (kq ≤ k) ∧ Aside0 (Below w.heap.size w wc))
 case first =>
  have H := HC3.out
  clear HC3
  revert H; refine X.ite_d (fun c4b0 H => ?_) (fun c4b0 H => ?_)
  rotate_left
  rotate_left
  all_goals
   have H' := Aside0.mk H
   clear H
   go_wp2
   go_meet
   case rel => first | (exact ⟨_, (true), (by rfl), H', ⟨by first | omega | exact Nat.le_refl _⟩, ⟨zz7⟩⟩) | (exact ⟨_, (decide (a1 ≥ (a0.size : Int))), (by rfl), H', ⟨by omega⟩, ⟨zz7⟩⟩)
 case rest =>
  clear HC3
  obtain ⟨kq, x19_2, rfl, HA, HJ2, HB⟩ := hcut
  cases kq with
  | zero => exact absurd HA.out (by simp [R1_Rune.j0])
  | succ kj2 =>
   have H := HA.out
   clear HA
   simp only [R1_Rune.j0] at H
   by_cases c5 : x19_2 = true
   ·subst c5
    rw [if_pos rfl] at H
    simp only [Option.some.injEq, Prod.mk.injEq] at H
    obtain ⟨rfl, rfl⟩ := H
    go_wp2
    go_ret2
    exact ⟨by rfl, zz7⟩
   ·replace c5 := Bool.eq_false_iff.mpr c5
    subst c5
    rw [if_neg (show ¬ (false = true) by decide)] at H
    have H' := Aside0.mk H
    clear H
    go_wp2
    go_loopg [6] kj2 (fun kq v6 w' => ∃ (x6_2 : Int), v6 = .int .i64 x6_2 ∧ Aside0 (R1_Rune.l0 kq a0 a1 x6_2 = some (r1, r2)) ∧ Aside0 (kq ≤ kj2) ∧ Aside0 (Below w.heap.size w w'))
    case atStart => exact ⟨(1), (by rfl), H', ⟨Nat.le_refl _⟩, ⟨zz7⟩⟩
    case round =>
     clear H'
     obtain ⟨x6_2, rfl, HA, HK2, HB⟩ := hrel
     cases gk with
     | zero => exact absurd HA.out (by simp [R1_Rune.l0])
     | succ k2 =>
      have H := HA.out
      clear HA
      simp only [R1_Rune.l0] at H
      have HC6 := Aside0.mk H
      clear H
      go_upto_region 4 with (fail)
      go_cut [29] (fun v29 wc => ∃ (kq : Nat) (x29_5 : Bool), v29 = .bool x29_5 ∧ Aside0 (R1_Rune.j2 kq a0 a1 x6_2 x29_5 = some (r1, r2)) ∧ Aside0 (kq ≤ k2) ∧ Aside0 (Below w.heap.size w wc))
      case first =>
       have H := HC6.out
       clear HC6
       revert H; refine X.ite_d (fun c7b0 H => ?_) (fun c7b0 H => ?_)
       rotate_left
       rotate_left
       all_goals
        have H' := Aside0.mk H
        clear H
        go_wp2
        go_meet
        case rel => first | (exact ⟨_, (decide (x6_2 ≤ (wrap64 ((a0.size : Int) - a1)))), (by rfl), H', ⟨by have := HJ2.out; have := HK2.out; first | omega | exact Nat.le_refl _⟩, ⟨zz7⟩⟩) | (exact ⟨_, (false), (by rfl), H', ⟨by have := HJ2.out; have := HK2.out; omega⟩, ⟨zz7⟩⟩)
      case rest =>
       clear HC6
       obtain ⟨kq, x29_5, rfl, HA, HJ5, HB⟩ := hcut
       cases kq with
       | zero => exact absurd HA.out (by simp [R1_Rune.j2])
       | succ kj5 =>
        have H := HA.out
        clear HA
        simp only [R1_Rune.j2] at H
        by_cases c8 : x29_5 = true
        ·subst c8
         rw [if_pos rfl] at H
         have H' := Aside0.mk H
         clear H
         go_wp2
         go_loopg [7, 8] kj5 (fun kq v7 v8 w' => ∃ (x7_4 : Int) (x8_4 : Int), v7 = .int .i64 x7_4 ∧ v8 = .int .i64 x8_4 ∧ Aside0 (R1_Rune.l1 kq a0 a1 x6_2 x7_4 x8_4 = some (r1, r2)) ∧ Aside0 (kq ≤ kj5) ∧ Aside0 (Below w.heap.size w w'))
         case atStart => exact ⟨(0), (0), (by rfl), (by rfl), H', ⟨Nat.le_refl _⟩, ⟨zz7⟩⟩
         case round =>
          clear H'
          obtain ⟨x7_4, x8_4, rfl, rfl, HA, HK4, HB⟩ := hrel
          cases gk with
          | zero => exact absurd HA.out (by simp [R1_Rune.l1])
          | succ k4 =>
           have H := HA.out
           clear HA
           simp only [R1_Rune.l1] at H
           revert H; refine X.ite_d (fun c9b0 H => ?_) (fun c9b0 H => ?_)
           obtain ⟨ji10, hji10⟩ : ∃ j_ : Int, (wrap64 (a1 + x8_4)) = j_ := ⟨_, rfl⟩
           replace H : (if 0 ≤ (ji10) then (if (ji10) < (a0.size : Int) then (if x8_4 = 0 then (if x6_2 = 2 then (R1_Rune.j4 k4 a0 a1 x6_2 x8_4 (wrap64 (bt a0 (ji10))) 192) else (R1_Rune.j4 k4 a0 a1 x6_2 x8_4 (wrap64 (bt a0 (ji10))) 0)) else (R1_Rune.l1 k4 a0 a1 x6_2 (wrap64 ((wrap64 ((wrap64 (x7_4 * 64)) + (wrap64 (bt a0 (ji10))))) - 128)) (wrap64 (x8_4 + 1)))) else (none)) else (none)) = some (r1, r2) := by ((rw [hji10] at H; exact H))
           have hji10w : (IntKind.i64.wrap (a1 + x8_4)) = ji10 := (i64_w _).trans hji10
           by_cases c11 : 0 ≤ (ji10)
           rw [if_pos c11] at H
           have c11b0 : decide (0 ≤ (ji10)) = true := decide_eq_true c11
           clear c11
           by_cases c12 : (ji10) < (a0.size : Int)
           rw [if_pos c12] at H
           have c12b0 : decide ((ji10) < (a0.size : Int)) = true := decide_eq_true c12
           clear c12
           revert H; refine X.ite_b (fun c14b0 c14b1 H => ?_) (fun c14b0 c14b1 H => ?_)
           ·have HC15 := Aside0.mk H
            clear H
            have p13 : 0 ≤ ((ji10) : Int) := of_decide_eq_true (zz9)
            have q13 : (ji10) < (a0.size : Int) := of_decide_eq_true (zz9)
            have hx13 := bt_at a0 (ji10)
            replace p13 := eq_true p13
            replace q13 := eq_true q13
            go_upto_if 46 with (fail)
            go_cut [10] (fun v10 wc => ∃ (kq : Nat) (x10_14 : Int), v10 = .int .i64 x10_14 ∧ Aside0 (R1_Rune.j4 kq a0 a1 x6_2 x8_4 (wrap64 (bt a0 (ji10))) x10_14 = some (r1, r2)) ∧ Aside0 (kq ≤ k4) ∧ Aside0 (Below w.heap.size w wc))
            case first =>
             have H := HC15.out
             clear HC15
             revert H; refine X.ite_b (fun c16b0 c16b1 H => ?_) (fun c16b0 c16b1 H => ?_)
             (rw [c16b0])
             rotate_left
             (rw [c16b0])
             rotate_left
             all_goals
              have H' := Aside0.mk H
              clear H
              go_wp2
              go_meet
              case rel => first | (exact ⟨_, (192), (by rfl), H', ⟨by have := HJ2.out; have := HK2.out; have := HJ5.out; have := HK4.out; first | omega | exact Nat.le_refl _⟩, ⟨zz7⟩⟩) | (exact ⟨_, (0), (by rfl), H', ⟨by have := HJ2.out; have := HK2.out; have := HJ5.out; have := HK4.out; omega⟩, ⟨zz7⟩⟩)
            case rest =>
             clear HC15
             clear c9b0
             clear c11b0
             clear c12b0
             clear p13
             clear q13
             clear hx13
             clear c14b0
             clear c14b1
             obtain ⟨kq, x10_14, rfl, HA, HJ14, HB⟩ := hcut
             cases kq with
             | zero => exact absurd HA.out (by simp [R1_Rune.j4])
             | succ kj14 =>
              have H := HA.out
              clear HA
              simp only [R1_Rune.j4] at H
              revert H; refine X.ite_b (fun c17b0 c17b1 H => ?_) (fun c17b0 c17b1 H => ?_)
              revert H; refine X.ite_b (fun c18b0 c18b1 H => ?_) (fun c18b0 c18b1 H => ?_)
              rotate_left
              rotate_left
              revert H; refine X.ite_b (fun c19b0 c19b1 H => ?_) (fun c19b0 c19b1 H => ?_)
              rotate_left
              rotate_left
              all_goals
               have H' := Aside0.mk H
               clear H
               go_wp2
               go_roundg kj14
               case measure => have := HJ2.out; have := HK2.out; have := HJ5.out; have := HK4.out; have := HJ14.out; omega
               case rel => first | (exact ⟨(wrap64 ((wrap64 (bt a0 (ji10))) - 240)), (wrap64 (x8_4 + 1)), (by rfl), (by rfl), H', ⟨by have := HJ2.out; have := HK2.out; have := HJ5.out; have := HK4.out; have := HJ14.out; omega⟩, ⟨zz7⟩⟩) | (exact ⟨(wrap64 ((wrap64 (bt a0 (ji10))) - 224)), (wrap64 (x8_4 + 1)), (by rfl), (by rfl), H', ⟨by have := HJ2.out; have := HK2.out; have := HJ5.out; have := HK4.out; have := HJ14.out; omega⟩, ⟨zz7⟩⟩) | (exact ⟨(wrap64 ((wrap64 (bt a0 (ji10))) - x10_14)), (wrap64 (x8_4 + 1)), (by rfl), (by rfl), H', ⟨by have := HJ2.out; have := HK2.out; have := HJ5.out; have := HK4.out; have := HJ14.out; omega⟩, ⟨zz7⟩⟩)
           rotate_left
           ·rw [if_neg c12] at H
            exact absurd H (by simp)
           ·rw [if_neg c11] at H
            exact absurd H (by simp)
           replace H := Option.bind_eq_some_iff.mp H
           obtain ⟨t167, A200, H⟩ := H
           have A20 := Aside0.mk A200
           clear A200
           revert H; refine X.ite_b (fun c21b0 c21b1 H => ?_) (fun c21b0 c21b1 H => ?_)
           rotate_left
           by_cases c23 : 0 ≤ a1
           rw [if_pos c23] at H
           have c23b0 := eq_true c23
           have c23b1 : decide (0 ≤ a1) = true := decide_eq_true c23
           clear c23
           by_cases c24 : a1 ≤ (wrap64 (a1 + x6_2))
           rw [if_pos c24] at H
           have c24b0 := eq_true c24
           have c24b1 : decide (a1 ≤ (wrap64 (a1 + x6_2))) = true := decide_eq_true c24
           by_cases c25 : (wrap64 (a1 + x6_2)) ≤ (a0.size : Int)
           rw [if_pos c25] at H
           have c25b0 := eq_true c25
           have c25b1 : decide ((wrap64 (a1 + x6_2)) ≤ (a0.size : Int)) = true := decide_eq_true c25
           revert H; refine X.ite_b (fun c26b0 c26b1 H => ?_) (fun c26b0 c26b1 H => ?_)
           rotate_left
           rotate_left
           ·rw [if_neg c25] at H
            exact absurd H (by simp)
           ·rw [if_neg c24] at H
            exact absurd H (by simp)
           ·rw [if_neg c23] at H
            exact absurd H (by simp)
           all_goals first
           | (have H' := Aside0.mk H
              clear H
              have p13 : 0 ≤ ((ji10) : Int) := of_decide_eq_true (zz9)
              have q13 : (ji10) < (a0.size : Int) := of_decide_eq_true (zz9)
              have hx13 := bt_at a0 (ji10)
              replace p13 := eq_true p13
              replace q13 := eq_true q13
              go_wp2
              go_roundg k4
              case measure => have := HJ2.out; have := HK2.out; have := HJ5.out; have := HK4.out; omega
              case rel => exact ⟨(wrap64 ((wrap64 ((wrap64 (x7_4 * 64)) + (wrap64 (bt a0 (ji10))))) - 128)), (wrap64 (x8_4 + 1)), (by rfl), (by rfl), H', ⟨by have := HJ2.out; have := HK2.out; have := HJ5.out; have := HK4.out; omega⟩, ⟨zz7⟩⟩)
           | (have H' := Aside0.mk H
              clear H
              go_wp2_with ((((with_reducible refine gate_callee (f := 116) rfl ?_); refine goesL_ (some 60) rfl rfl Tryz.func116 (by kernel_rfl) rfl #[.int .i64 x7_4] rfl (zz3) ?_; (with_reducible refine (R1_Encode.calls x7_4 t167 _ A20.out).mono ?_); rintro e wz1 ⟨rfl, hb⟩; refine ⟨_, rfl, ?_⟩; have n0_ := Aside0.mk (below_step (zz7) hb); clear HB; have HB := n0_; clear n0_; (clear hb))))
              go_roundg k4
              case measure => have := HJ2.out; have := HK2.out; have := HJ5.out; have := HK4.out; omega
              case rel => exact ⟨(wrap64 (x6_2 + 1)), (by rfl), H', ⟨by have := HJ2.out; have := HK2.out; have := HJ5.out; have := HK4.out; omega⟩, ⟨zz7⟩⟩)
           | (simp only [Option.some.injEq, Prod.mk.injEq] at H
              obtain ⟨rfl, rfl⟩ := H
              go_wp2_with ((((with_reducible refine gate_callee (f := 116) rfl ?_); refine goesL_ (some 60) rfl rfl Tryz.func116 (by kernel_rfl) rfl #[.int .i64 x7_4] rfl (zz3) ?_; (with_reducible refine (R1_Encode.calls x7_4 t167 _ A20.out).mono ?_); rintro e wz1 ⟨rfl, hb⟩; refine ⟨_, rfl, ?_⟩; have n0_ := Aside0.mk (below_step (zz7) hb); clear HB; have HB := n0_; clear n0_; (clear hb))))
              go_ret2
              exact ⟨by rfl, zz7⟩)
        ·replace c8 := Bool.eq_false_iff.mpr c8
         subst c8
         rw [if_neg (show ¬ (false = true) by decide)] at H
         simp only [Option.some.injEq, Prod.mk.injEq] at H
         obtain ⟨rfl, rfl⟩ := H
         go_wp2
         go_ret2
         exact ⟨by rfl, zz7⟩
def R1_Valid.l0 : Nat → ByteArray → Int → Option (Bool)
 | 0, _, _ => none
 | k + 1, x0, x3 => if x3 < (x0.size : Int) then ((R1_Rune.f k x0 x3).bind fun bt168 => ((R1_Allowed.f bt168.1).bind fun t170 => (if bt168.2 = 0 then (some false) else (if t170 = true then (R1_Valid.l0 k x0 (wrap64 (x3 + bt168.2))) else (some false))))) else (some true)
def R1_Valid.f (k : Nat) (a0 : ByteArray) : Option (Bool) := R1_Valid.l0 k a0 0
set_option maxHeartbeats 8000000 in
set_option maxRecDepth 100000 in
theorem R1_Valid.calls (k : Nat) (a0 : ByteArray) (r : Bool) (w : World) (h : R1_Valid.f k a0 = some r) :
 Calls Tryz.prog 65 #[.string a0] w fun e w' => e = .returned (.bool r) ∧ Below w.heap.size w w' := by
 have HB := Aside0.mk (Below.refl w.heap.size w)
 have H : (R1_Valid.l0 k a0 0) = some r := h
 clear h
 have H' := Aside0.mk H
 clear H
 go_enter Tryz.func65, Tryz.ntmps65
 go_wp2
 go_loopg [3] k (fun kq v3 w' => ∃ (x3_1 : Int), v3 = .int .i64 x3_1 ∧ Aside0 (R1_Valid.l0 kq a0 x3_1 = some r) ∧ Aside0 (kq ≤ k) ∧ Aside0 (Below w.heap.size w w'))
 case atStart => exact ⟨(0), (by rfl), H', ⟨Nat.le_refl _⟩, ⟨zz7⟩⟩
 case round =>
  clear H'
  obtain ⟨x3_1, rfl, HA, HK1, HB⟩ := hrel
  cases gk with
  | zero => exact absurd HA.out (by simp [R1_Valid.l0])
  | succ k1 =>
   have H := HA.out
   clear HA
   simp only [R1_Valid.l0] at H
   revert H; refine X.ite_d (fun c2b0 H => ?_) (fun c2b0 H => ?_)
   replace H := Option.bind_eq_some_iff.mp H
   obtain ⟨⟨t168, t169⟩, A30, H⟩ := H
   dsimp only at H
   have A3 := Aside0.mk A30
   clear A30
   replace H := Option.bind_eq_some_iff.mp H
   obtain ⟨t170, A40, H⟩ := H
   have A4 := Aside0.mk A40
   clear A40
   revert H; refine X.ite_b (fun c5b0 c5b1 H => ?_) (fun c5b0 c5b1 H => ?_)
   rotate_left
   by_cases c7 : t170 = true
   subst c7
   rw [if_pos rfl] at H
   rotate_left
   replace c7 := Bool.eq_false_iff.mpr c7
   subst c7
   rw [if_neg (show ¬ (false = true) by decide)] at H
   rotate_left
   ·obtain rfl := Option.some.inj H
    go_wp2
    go_ret
    exact ⟨by rfl, zz7⟩
   all_goals first
   | (obtain rfl := Option.some.inj H
      go_wp2_with (first | ((with_reducible refine gate_callee (f := 91) rfl ?_); refine goesL_ (some 14) rfl rfl Tryz.func91 (by kernel_rfl) rfl #[.string a0, .int .i64 x3_1] rfl (zz3) ?_; (with_reducible refine (R1_Rune.calls k1 a0 x3_1 t168 t169 _ A3.out).mono ?_); rintro e wz1 ⟨rfl, hb⟩; refine ⟨_, rfl, ?_⟩; have n0_ := Aside0.mk (below_step (zz7) hb); clear HB; have HB := n0_; clear n0_; (clear hb)) | ((with_reducible refine gate_callee (f := 92) rfl ?_); refine goesL_ (some 18) rfl rfl Tryz.func92 (by kernel_rfl) rfl #[.int .i64 t168] rfl (zz3) ?_; (with_reducible refine (R1_Allowed.calls t168 t170 _ A4.out).mono ?_); rintro e w' ⟨rfl, ⟨nd, rfl⟩⟩; refine ⟨_, rfl, ?_⟩) | ((with_reducible refine gate_callee (f := 92) rfl ?_); refine goesL_ (some 18) rfl rfl Tryz.func92 (by kernel_rfl) rfl #[.int .i64 t168] rfl (zz3) ?_; (with_reducible refine (R1_Allowed.calls t168 false _ A4.out).mono ?_); rintro e w' ⟨rfl, ⟨nd, rfl⟩⟩; refine ⟨_, rfl, ?_⟩))
      go_ret
      exact ⟨by rfl, zz5⟩)
   | (have H' := Aside0.mk H
      clear H
      go_wp2_with (first | ((with_reducible refine gate_callee (f := 91) rfl ?_); refine goesL_ (some 14) rfl rfl Tryz.func91 (by kernel_rfl) rfl #[.string a0, .int .i64 x3_1] rfl (zz3) ?_; (with_reducible refine (R1_Rune.calls k1 a0 x3_1 t168 t169 _ A3.out).mono ?_); rintro e wz1 ⟨rfl, hb⟩; refine ⟨_, rfl, ?_⟩; have n0_ := Aside0.mk (below_step (zz7) hb); clear HB; have HB := n0_; clear n0_; (clear hb)) | ((with_reducible refine gate_callee (f := 92) rfl ?_); refine goesL_ (some 18) rfl rfl Tryz.func92 (by kernel_rfl) rfl #[.int .i64 t168] rfl (zz3) ?_; (with_reducible refine (R1_Allowed.calls t168 true _ A4.out).mono ?_); rintro e w' ⟨rfl, ⟨nd, rfl⟩⟩; refine ⟨_, rfl, ?_⟩))
      go_roundg k1
      case measure => have := HK1.out; omega
      case rel => exact ⟨(wrap64 (x3_1 + t169)), (by rfl), H', ⟨by have := HK1.out; omega⟩, ⟨zz5⟩⟩)
mutual
def R1_NameEnd.l0 : Nat → ByteArray → Int → Int → Option (Int)
 | 0, _, _, _ => none
 | k + 1, x0, x1, x5 => if x5 ≥ 0 then (R1_NameEnd.j1 k x0 x1 x5 (decide (x5 < (x0.size : Int)))) else (R1_NameEnd.j1 k x0 x1 x5 false)
def R1_NameEnd.j1 : Nat → ByteArray → Int → Int → Bool → Option (Int)
 | 0, _, _, _, _ => none
 | k + 1, x0, x1, x5, x17 => if x17 = true then (if 0 ≤ x5 then (if x5 < (x0.size : Int) then (if (bt x0 x5) ≥ 97 then (if (bt x0 x5) ≤ 122 then (if (bt x0 x5) ≥ 48 then (if (bt x0 x5) ≤ 57 then (R1_NameEnd.l0 k x0 x1 (wrap64 (x5 + 1))) else (if (bt x0 x5) = 45 then (R1_NameEnd.l0 k x0 x1 (wrap64 (x5 + 1))) else (R1_NameEnd.l0 k x0 x1 (wrap64 (x5 + 1))))) else (if (bt x0 x5) = 45 then (R1_NameEnd.l0 k x0 x1 (wrap64 (x5 + 1))) else (R1_NameEnd.l0 k x0 x1 (wrap64 (x5 + 1))))) else (if (bt x0 x5) ≥ 65 then (if (bt x0 x5) ≤ 90 then (if (bt x0 x5) ≥ 48 then (if (bt x0 x5) ≤ 57 then (R1_NameEnd.l0 k x0 x1 (wrap64 (x5 + 1))) else (if (bt x0 x5) = 45 then (R1_NameEnd.l0 k x0 x1 (wrap64 (x5 + 1))) else (R1_NameEnd.l0 k x0 x1 (wrap64 (x5 + 1))))) else (if (bt x0 x5) = 45 then (R1_NameEnd.l0 k x0 x1 (wrap64 (x5 + 1))) else (R1_NameEnd.l0 k x0 x1 (wrap64 (x5 + 1))))) else (if (bt x0 x5) ≥ 48 then (if (bt x0 x5) ≤ 57 then (if ((bt x0 x5) = 95) then (R1_NameEnd.l0 k x0 x1 (wrap64 (x5 + 1))) else (if x5 = x1 then (some x5) else (R1_NameEnd.l0 k x0 x1 (wrap64 (x5 + 1))))) else (if (bt x0 x5) = 45 then (if ((bt x0 x5) = 95) then (R1_NameEnd.l0 k x0 x1 (wrap64 (x5 + 1))) else (if x5 = x1 then (some x5) else (R1_NameEnd.l0 k x0 x1 (wrap64 (x5 + 1))))) else (if ((bt x0 x5) = 95) then (R1_NameEnd.l0 k x0 x1 (wrap64 (x5 + 1))) else (if ((bt x0 x5) = 46) then (if x5 = x1 then (some x5) else (R1_NameEnd.l0 k x0 x1 (wrap64 (x5 + 1)))) else (some x5))))) else (if (bt x0 x5) = 45 then (if ((bt x0 x5) = 95) then (R1_NameEnd.l0 k x0 x1 (wrap64 (x5 + 1))) else (if x5 = x1 then (some x5) else (R1_NameEnd.l0 k x0 x1 (wrap64 (x5 + 1))))) else (if ((bt x0 x5) = 95) then (R1_NameEnd.l0 k x0 x1 (wrap64 (x5 + 1))) else (if ((bt x0 x5) = 46) then (if x5 = x1 then (some x5) else (R1_NameEnd.l0 k x0 x1 (wrap64 (x5 + 1)))) else (some x5)))))) else (if (bt x0 x5) ≥ 48 then (if (bt x0 x5) ≤ 57 then (if ((bt x0 x5) = 95) then (R1_NameEnd.l0 k x0 x1 (wrap64 (x5 + 1))) else (if x5 = x1 then (some x5) else (R1_NameEnd.l0 k x0 x1 (wrap64 (x5 + 1))))) else (if (bt x0 x5) = 45 then (if ((bt x0 x5) = 95) then (R1_NameEnd.l0 k x0 x1 (wrap64 (x5 + 1))) else (if x5 = x1 then (some x5) else (R1_NameEnd.l0 k x0 x1 (wrap64 (x5 + 1))))) else (if ((bt x0 x5) = 95) then (R1_NameEnd.l0 k x0 x1 (wrap64 (x5 + 1))) else (if ((bt x0 x5) = 46) then (if x5 = x1 then (some x5) else (R1_NameEnd.l0 k x0 x1 (wrap64 (x5 + 1)))) else (some x5))))) else (if (bt x0 x5) = 45 then (if ((bt x0 x5) = 95) then (R1_NameEnd.l0 k x0 x1 (wrap64 (x5 + 1))) else (if x5 = x1 then (some x5) else (R1_NameEnd.l0 k x0 x1 (wrap64 (x5 + 1))))) else (if ((bt x0 x5) = 95) then (R1_NameEnd.l0 k x0 x1 (wrap64 (x5 + 1))) else (if ((bt x0 x5) = 46) then (if x5 = x1 then (some x5) else (R1_NameEnd.l0 k x0 x1 (wrap64 (x5 + 1)))) else (some x5))))))) else (if (bt x0 x5) ≥ 65 then (if (bt x0 x5) ≤ 90 then (if (bt x0 x5) ≥ 48 then (if (bt x0 x5) ≤ 57 then (R1_NameEnd.l0 k x0 x1 (wrap64 (x5 + 1))) else (if (bt x0 x5) = 45 then (R1_NameEnd.l0 k x0 x1 (wrap64 (x5 + 1))) else (R1_NameEnd.l0 k x0 x1 (wrap64 (x5 + 1))))) else (if (bt x0 x5) = 45 then (R1_NameEnd.l0 k x0 x1 (wrap64 (x5 + 1))) else (R1_NameEnd.l0 k x0 x1 (wrap64 (x5 + 1))))) else (if (bt x0 x5) ≥ 48 then (if (bt x0 x5) ≤ 57 then (if ((bt x0 x5) = 95) then (R1_NameEnd.l0 k x0 x1 (wrap64 (x5 + 1))) else (if x5 = x1 then (some x5) else (R1_NameEnd.l0 k x0 x1 (wrap64 (x5 + 1))))) else (if (bt x0 x5) = 45 then (if ((bt x0 x5) = 95) then (R1_NameEnd.l0 k x0 x1 (wrap64 (x5 + 1))) else (if x5 = x1 then (some x5) else (R1_NameEnd.l0 k x0 x1 (wrap64 (x5 + 1))))) else (if ((bt x0 x5) = 95) then (R1_NameEnd.l0 k x0 x1 (wrap64 (x5 + 1))) else (if ((bt x0 x5) = 46) then (if x5 = x1 then (some x5) else (R1_NameEnd.l0 k x0 x1 (wrap64 (x5 + 1)))) else (some x5))))) else (if (bt x0 x5) = 45 then (if ((bt x0 x5) = 95) then (R1_NameEnd.l0 k x0 x1 (wrap64 (x5 + 1))) else (if x5 = x1 then (some x5) else (R1_NameEnd.l0 k x0 x1 (wrap64 (x5 + 1))))) else (if ((bt x0 x5) = 95) then (R1_NameEnd.l0 k x0 x1 (wrap64 (x5 + 1))) else (if ((bt x0 x5) = 46) then (if x5 = x1 then (some x5) else (R1_NameEnd.l0 k x0 x1 (wrap64 (x5 + 1)))) else (some x5)))))) else (if (bt x0 x5) ≥ 48 then (if (bt x0 x5) ≤ 57 then (if ((bt x0 x5) = 95) then (R1_NameEnd.l0 k x0 x1 (wrap64 (x5 + 1))) else (if x5 = x1 then (some x5) else (R1_NameEnd.l0 k x0 x1 (wrap64 (x5 + 1))))) else (if (bt x0 x5) = 45 then (if ((bt x0 x5) = 95) then (R1_NameEnd.l0 k x0 x1 (wrap64 (x5 + 1))) else (if x5 = x1 then (some x5) else (R1_NameEnd.l0 k x0 x1 (wrap64 (x5 + 1))))) else (if ((bt x0 x5) = 95) then (R1_NameEnd.l0 k x0 x1 (wrap64 (x5 + 1))) else (if ((bt x0 x5) = 46) then (if x5 = x1 then (some x5) else (R1_NameEnd.l0 k x0 x1 (wrap64 (x5 + 1)))) else (some x5))))) else (if (bt x0 x5) = 45 then (if ((bt x0 x5) = 95) then (R1_NameEnd.l0 k x0 x1 (wrap64 (x5 + 1))) else (if x5 = x1 then (some x5) else (R1_NameEnd.l0 k x0 x1 (wrap64 (x5 + 1))))) else (if ((bt x0 x5) = 95) then (R1_NameEnd.l0 k x0 x1 (wrap64 (x5 + 1))) else (if ((bt x0 x5) = 46) then (if x5 = x1 then (some x5) else (R1_NameEnd.l0 k x0 x1 (wrap64 (x5 + 1)))) else (some x5))))))) else (none)) else (none)) else (some x5)
end
def R1_NameEnd.f (k : Nat) (a0 : ByteArray) (a1 : Int) : Option (Int) := R1_NameEnd.l0 k a0 a1 a1
set_option maxHeartbeats 8000000 in
set_option maxRecDepth 100000 in
theorem R1_NameEnd.calls (k : Nat) (a0 : ByteArray) (a1 : Int) (r : Int) (w : World) (h : R1_NameEnd.f k a0 a1 = some r) :
 Calls Tryz.prog 53 #[.string a0, .int .i64 a1] w fun e w' => e = .returned (.int .i64 r) ∧ Drawn0 w w' := by
 have H : (R1_NameEnd.l0 k a0 a1 a1) = some r := h
 clear h
 have H' := Aside0.mk H
 clear H
 go_enter Tryz.func53, Tryz.ntmps53
 go_wp2
 go_loopg [5] k (fun kq v5 w' => ∃ (x5_1 : Int), v5 = .int .i64 x5_1 ∧ Aside0 (R1_NameEnd.l0 kq a0 a1 x5_1 = some r) ∧ Aside0 (kq ≤ k) ∧ Drawn0 w w')
 case atStart => exact ⟨(a1), (by rfl), H', ⟨Nat.le_refl _⟩, by repeat (exact Drawn0.refl _)⟩
 case round =>
  clear H'
  obtain ⟨x5_1, rfl, HA, HK1, ⟨m1, rfl⟩⟩ := hrel
  cases gk with
  | zero => exact absurd HA.out (by simp [R1_NameEnd.l0])
  | succ k1 =>
   have H := HA.out
   clear HA
   simp only [R1_NameEnd.l0] at H
   have HC3 := Aside0.mk H
   clear H
   go_upto_region 2 with (fail)
   go_cut [17] (fun v17 wc => ∃ (kq : Nat) (x17_2 : Bool), v17 = .bool x17_2 ∧ Aside0 (R1_NameEnd.j1 kq a0 a1 x5_1 x17_2 = some r) ∧ Aside0 (kq ≤ k1) ∧ Drawn0 w wc)
   case first =>
    have H := HC3.out
    clear HC3
    revert H; refine X.ite_d (c := 0 ≤ x5_1) (fun c4b0 H => ?_) (fun c4b0 H => ?_)
    rotate_left
    rotate_left
    all_goals
     have H' := Aside0.mk H
     clear H
     go_wp2
     go_meet
     case rel => first | (exact ⟨_, (decide (x5_1 < (a0.size : Int))), (by rfl), H', ⟨by have := HK1.out; first | omega | exact Nat.le_refl _⟩, zz1⟩) | (exact ⟨_, (false), (by rfl), H', ⟨by have := HK1.out; omega⟩, zz1⟩)
   case rest =>
    clear HC3
    obtain ⟨kq, x17_2, rfl, HA, HJ2, ⟨mc2, rfl⟩⟩ := hcut
    cases kq with
    | zero => exact absurd HA.out (by simp [R1_NameEnd.j1])
    | succ kj2 =>
     have H := HA.out
     clear HA
     simp only [R1_NameEnd.j1] at H
     by_cases c5 : x17_2 = true
     subst c5
     rw [if_pos rfl] at H
     by_cases c6 : 0 ≤ x5_1
     rw [if_pos c6] at H
     have c6b0 : decide (0 ≤ x5_1) = true := decide_eq_true c6
     clear c6
     by_cases c7 : x5_1 < (a0.size : Int)
     rw [if_pos c7] at H
     have c7b0 : decide (x5_1 < (a0.size : Int)) = true := decide_eq_true c7
     clear c7
     revert H; refine X.ite_d (c := 97 ≤ (bt a0 x5_1)) (fun c9b0 H => ?_) (fun c9b0 H => ?_)
     revert H; refine X.ite_d (fun c10b0 H => ?_) (fun c10b0 H => ?_)
     revert H; refine X.ite_d (c := 48 ≤ (bt a0 x5_1)) (fun c11b0 H => ?_) (fun c11b0 H => ?_)
     revert H; refine X.ite_d (fun c12b0 H => ?_) (fun c12b0 H => ?_)
     rotate_left
     revert H; refine X.ite_b (fun c13b0 c13b1 H => ?_) (fun c13b0 c13b1 H => ?_)
     rotate_left
     rotate_left
     revert H; refine X.ite_b (fun c14b0 c14b1 H => ?_) (fun c14b0 c14b1 H => ?_)
     rotate_left
     rotate_left
     revert H; refine X.ite_d (c := 65 ≤ (bt a0 x5_1)) (fun c15b0 H => ?_) (fun c15b0 H => ?_)
     revert H; refine X.ite_d (fun c16b0 H => ?_) (fun c16b0 H => ?_)
     revert H; refine X.ite_d (c := 48 ≤ (bt a0 x5_1)) (fun c17b0 H => ?_) (fun c17b0 H => ?_)
     revert H; refine X.ite_d (fun c18b0 H => ?_) (fun c18b0 H => ?_)
     rotate_left
     revert H; refine X.ite_b (fun c19b0 c19b1 H => ?_) (fun c19b0 c19b1 H => ?_)
     rotate_left
     rotate_left
     revert H; refine X.ite_b (fun c20b0 c20b1 H => ?_) (fun c20b0 c20b1 H => ?_)
     rotate_left
     rotate_left
     revert H; refine X.ite_d (c := 48 ≤ (bt a0 x5_1)) (fun c21b0 H => ?_) (fun c21b0 H => ?_)
     revert H; refine X.ite_d (fun c22b0 H => ?_) (fun c22b0 H => ?_)
     revert H; refine X.ite_b (fun c23b0 c23b1 H => ?_) (fun c23b0 c23b1 H => ?_)
     rotate_left
     revert H; refine X.ite_b (fun c24b0 c24b1 H => ?_) (fun c24b0 c24b1 H => ?_)
     rotate_left
     rotate_left
     revert H; refine X.ite_b (fun c25b0 c25b1 H => ?_) (fun c25b0 c25b1 H => ?_)
     revert H; refine X.ite_b (fun c26b0 c26b1 H => ?_) (fun c26b0 c26b1 H => ?_)
     rotate_left
     revert H; refine X.ite_b (fun c27b0 c27b1 H => ?_) (fun c27b0 c27b1 H => ?_)
     rotate_left
     rotate_left
     revert H; refine X.ite_b (fun c28b0 c28b1 H => ?_) (fun c28b0 c28b1 H => ?_)
     rotate_left
     revert H; refine X.ite_b (fun c29b0 c29b1 H => ?_) (fun c29b0 c29b1 H => ?_)
     revert H; refine X.ite_b (fun c30b0 c30b1 H => ?_) (fun c30b0 c30b1 H => ?_)
     rotate_left
     rotate_left
     rotate_left
     revert H; refine X.ite_b (fun c31b0 c31b1 H => ?_) (fun c31b0 c31b1 H => ?_)
     revert H; refine X.ite_b (fun c32b0 c32b1 H => ?_) (fun c32b0 c32b1 H => ?_)
     rotate_left
     revert H; refine X.ite_b (fun c33b0 c33b1 H => ?_) (fun c33b0 c33b1 H => ?_)
     rotate_left
     rotate_left
     revert H; refine X.ite_b (fun c34b0 c34b1 H => ?_) (fun c34b0 c34b1 H => ?_)
     rotate_left
     revert H; refine X.ite_b (fun c35b0 c35b1 H => ?_) (fun c35b0 c35b1 H => ?_)
     revert H; refine X.ite_b (fun c36b0 c36b1 H => ?_) (fun c36b0 c36b1 H => ?_)
     rotate_left
     rotate_left
     rotate_left
     revert H; refine X.ite_d (c := 48 ≤ (bt a0 x5_1)) (fun c37b0 H => ?_) (fun c37b0 H => ?_)
     revert H; refine X.ite_d (fun c38b0 H => ?_) (fun c38b0 H => ?_)
     revert H; refine X.ite_b (fun c39b0 c39b1 H => ?_) (fun c39b0 c39b1 H => ?_)
     rotate_left
     revert H; refine X.ite_b (fun c40b0 c40b1 H => ?_) (fun c40b0 c40b1 H => ?_)
     rotate_left
     rotate_left
     revert H; refine X.ite_b (fun c41b0 c41b1 H => ?_) (fun c41b0 c41b1 H => ?_)
     revert H; refine X.ite_b (fun c42b0 c42b1 H => ?_) (fun c42b0 c42b1 H => ?_)
     rotate_left
     revert H; refine X.ite_b (fun c43b0 c43b1 H => ?_) (fun c43b0 c43b1 H => ?_)
     rotate_left
     rotate_left
     revert H; refine X.ite_b (fun c44b0 c44b1 H => ?_) (fun c44b0 c44b1 H => ?_)
     rotate_left
     revert H; refine X.ite_b (fun c45b0 c45b1 H => ?_) (fun c45b0 c45b1 H => ?_)
     revert H; refine X.ite_b (fun c46b0 c46b1 H => ?_) (fun c46b0 c46b1 H => ?_)
     rotate_left
     rotate_left
     rotate_left
     revert H; refine X.ite_b (fun c47b0 c47b1 H => ?_) (fun c47b0 c47b1 H => ?_)
     revert H; refine X.ite_b (fun c48b0 c48b1 H => ?_) (fun c48b0 c48b1 H => ?_)
     rotate_left
     revert H; refine X.ite_b (fun c49b0 c49b1 H => ?_) (fun c49b0 c49b1 H => ?_)
     rotate_left
     rotate_left
     revert H; refine X.ite_b (fun c50b0 c50b1 H => ?_) (fun c50b0 c50b1 H => ?_)
     rotate_left
     revert H; refine X.ite_b (fun c51b0 c51b1 H => ?_) (fun c51b0 c51b1 H => ?_)
     revert H; refine X.ite_b (fun c52b0 c52b1 H => ?_) (fun c52b0 c52b1 H => ?_)
     rotate_left
     rotate_left
     rotate_left
     revert H; refine X.ite_d (c := 65 ≤ (bt a0 x5_1)) (fun c53b0 H => ?_) (fun c53b0 H => ?_)
     revert H; refine X.ite_d (fun c54b0 H => ?_) (fun c54b0 H => ?_)
     revert H; refine X.ite_d (c := 48 ≤ (bt a0 x5_1)) (fun c55b0 H => ?_) (fun c55b0 H => ?_)
     revert H; refine X.ite_d (fun c56b0 H => ?_) (fun c56b0 H => ?_)
     rotate_left
     revert H; refine X.ite_b (fun c57b0 c57b1 H => ?_) (fun c57b0 c57b1 H => ?_)
     rotate_left
     rotate_left
     revert H; refine X.ite_b (fun c58b0 c58b1 H => ?_) (fun c58b0 c58b1 H => ?_)
     rotate_left
     rotate_left
     revert H; refine X.ite_d (c := 48 ≤ (bt a0 x5_1)) (fun c59b0 H => ?_) (fun c59b0 H => ?_)
     revert H; refine X.ite_d (fun c60b0 H => ?_) (fun c60b0 H => ?_)
     revert H; refine X.ite_b (fun c61b0 c61b1 H => ?_) (fun c61b0 c61b1 H => ?_)
     rotate_left
     revert H; refine X.ite_b (fun c62b0 c62b1 H => ?_) (fun c62b0 c62b1 H => ?_)
     rotate_left
     rotate_left
     revert H; refine X.ite_b (fun c63b0 c63b1 H => ?_) (fun c63b0 c63b1 H => ?_)
     revert H; refine X.ite_b (fun c64b0 c64b1 H => ?_) (fun c64b0 c64b1 H => ?_)
     rotate_left
     revert H; refine X.ite_b (fun c65b0 c65b1 H => ?_) (fun c65b0 c65b1 H => ?_)
     rotate_left
     rotate_left
     revert H; refine X.ite_b (fun c66b0 c66b1 H => ?_) (fun c66b0 c66b1 H => ?_)
     rotate_left
     revert H; refine X.ite_b (fun c67b0 c67b1 H => ?_) (fun c67b0 c67b1 H => ?_)
     revert H; refine X.ite_b (fun c68b0 c68b1 H => ?_) (fun c68b0 c68b1 H => ?_)
     rotate_left
     rotate_left
     rotate_left
     revert H; refine X.ite_b (fun c69b0 c69b1 H => ?_) (fun c69b0 c69b1 H => ?_)
     revert H; refine X.ite_b (fun c70b0 c70b1 H => ?_) (fun c70b0 c70b1 H => ?_)
     rotate_left
     revert H; refine X.ite_b (fun c71b0 c71b1 H => ?_) (fun c71b0 c71b1 H => ?_)
     rotate_left
     rotate_left
     revert H; refine X.ite_b (fun c72b0 c72b1 H => ?_) (fun c72b0 c72b1 H => ?_)
     rotate_left
     revert H; refine X.ite_b (fun c73b0 c73b1 H => ?_) (fun c73b0 c73b1 H => ?_)
     revert H; refine X.ite_b (fun c74b0 c74b1 H => ?_) (fun c74b0 c74b1 H => ?_)
     rotate_left
     rotate_left
     rotate_left
     revert H; refine X.ite_d (c := 48 ≤ (bt a0 x5_1)) (fun c75b0 H => ?_) (fun c75b0 H => ?_)
     revert H; refine X.ite_d (fun c76b0 H => ?_) (fun c76b0 H => ?_)
     revert H; refine X.ite_b (fun c77b0 c77b1 H => ?_) (fun c77b0 c77b1 H => ?_)
     rotate_left
     revert H; refine X.ite_b (fun c78b0 c78b1 H => ?_) (fun c78b0 c78b1 H => ?_)
     rotate_left
     rotate_left
     revert H; refine X.ite_b (fun c79b0 c79b1 H => ?_) (fun c79b0 c79b1 H => ?_)
     revert H; refine X.ite_b (fun c80b0 c80b1 H => ?_) (fun c80b0 c80b1 H => ?_)
     rotate_left
     revert H; refine X.ite_b (fun c81b0 c81b1 H => ?_) (fun c81b0 c81b1 H => ?_)
     rotate_left
     rotate_left
     revert H; refine X.ite_b (fun c82b0 c82b1 H => ?_) (fun c82b0 c82b1 H => ?_)
     rotate_left
     revert H; refine X.ite_b (fun c83b0 c83b1 H => ?_) (fun c83b0 c83b1 H => ?_)
     revert H; refine X.ite_b (fun c84b0 c84b1 H => ?_) (fun c84b0 c84b1 H => ?_)
     rotate_left
     rotate_left
     rotate_left
     revert H; refine X.ite_b (fun c85b0 c85b1 H => ?_) (fun c85b0 c85b1 H => ?_)
     revert H; refine X.ite_b (fun c86b0 c86b1 H => ?_) (fun c86b0 c86b1 H => ?_)
     rotate_left
     revert H; refine X.ite_b (fun c87b0 c87b1 H => ?_) (fun c87b0 c87b1 H => ?_)
     rotate_left
     rotate_left
     revert H; refine X.ite_b (fun c88b0 c88b1 H => ?_) (fun c88b0 c88b1 H => ?_)
     rotate_left
     revert H; refine X.ite_b (fun c89b0 c89b1 H => ?_) (fun c89b0 c89b1 H => ?_)
     revert H; refine X.ite_b (fun c90b0 c90b1 H => ?_) (fun c90b0 c90b1 H => ?_)
     rotate_left
     rotate_left
     rotate_left
     ·rw [if_neg c7] at H
      exact absurd H (by simp)
     ·rw [if_neg c6] at H
      exact absurd H (by simp)
     ·replace c5 := Bool.eq_false_iff.mpr c5
      subst c5
      rw [if_neg (show ¬ (false = true) by decide)] at H
      obtain rfl := Option.some.inj H
      go_wp2
      go_ret
      exact ⟨by rfl, zz1⟩
     all_goals first
     | (have H' := Aside0.mk H
        clear H
        have pz1 : 0 ≤ (x5_1 : Int) := of_decide_eq_true (zz9)
        have qz1 : x5_1 < (a0.size : Int) := of_decide_eq_true (zz9)
        have hxz1 := bt_at a0 x5_1
        replace pz1 := eq_true pz1
        replace qz1 := eq_true qz1
        go_wp2
        go_roundg kj2
        case measure => have := HK1.out; have := HJ2.out; omega
        case rel => exact ⟨(wrap64 (x5_1 + 1)), (by rfl), H', ⟨by have := HK1.out; have := HJ2.out; omega⟩, zz1⟩)
     | (obtain rfl := Option.some.inj H
        have pz1 : 0 ≤ (x5_1 : Int) := of_decide_eq_true (zz9)
        have qz1 : x5_1 < (a0.size : Int) := of_decide_eq_true (zz9)
        have hxz1 := bt_at a0 x5_1
        replace pz1 := eq_true pz1
        replace qz1 := eq_true qz1
        go_wp2
        go_ret
        exact ⟨by rfl, zz1⟩)
def R1_Space.f (a0 : Int) : Option (Bool) := if a0 = 32 then (some true) else (if a0 = 9 then (some true) else (if a0 = 10 then (some true) else (some (a0 == 13))))
set_option maxHeartbeats 8000000 in
set_option maxRecDepth 100000 in
theorem R1_Space.calls (a0 : Int) (r : Bool) (w : World) (h : R1_Space.f a0 = some r) :
 Calls Tryz.prog 97 #[.int .u8 a0] w fun e w' => e = .returned (.bool r) ∧ Drawn0 w w' := by
 have H : (if a0 = 32 then (some true) else (if a0 = 9 then (some true) else (if a0 = 10 then (some true) else (some (a0 == 13))))) = some r := h
 clear h
 revert H; refine X.ite_b (fun c2b0 c2b1 H => ?_) (fun c2b0 c2b1 H => ?_)
 rotate_left
 revert H; refine X.ite_b (fun c3b0 c3b1 H => ?_) (fun c3b0 c3b1 H => ?_)
 rotate_left
 revert H; refine X.ite_b (fun c4b0 c4b1 H => ?_) (fun c4b0 c4b1 H => ?_)
 rotate_left
 ·obtain rfl := Option.some.inj H
  go_enter Tryz.func97, Tryz.ntmps97
  go_wp2
  go_ret
  exact zz13
 all_goals
  obtain rfl := Option.some.inj H
  go_enter Tryz.func97, Tryz.ntmps97
  go_wp2
  go_ret
  exact zz13
end Go.Proofs.YtlhhhlimjajnlaaGreat.Q
end
section
namespace Go.Proofs.YtlhhhlimjajnlaaGreat.X
end Go.Proofs.YtlhhhlimjajnlaaGreat.X
namespace Go.Proofs.YtlhhhlimjajnlaaGreat.Q
open Go.RowKit Go.Proofs.YtlhhhlimjajnlaaGreatW.PrintWords Go.Proofs.YtlhhhlimjajnlaaGreatW.PrintLast Go.Proofs.YtlhhhlimjajnlaaGreatW.PrintMore
attribute [local go_sem] max2_int min2_int max_two min_two max_three min_three max_four min_four   
open Go.Proofs.YtlhhhlimjajnlaaGreat.X
set_option linter.unusedVariables false
set_option linter.unusedSimpArgs false
mutual
def R1_Skip.l0 : Nat → ByteArray → Int → Option (Int)
 | 0, _, _ => none
 | k + 1, x0, x1 => if x1 ≥ 0 then (R1_Skip.j1 k x0 x1 (decide (x1 < (x0.size : Int)))) else (R1_Skip.j1 k x0 x1 false)
def R1_Skip.j1 : Nat → ByteArray → Int → Bool → Option (Int)
 | 0, _, _, _ => none
 | k + 1, x0, x1, x13 => if x13 = true then (if 0 ≤ x1 then (if x1 < (x0.size : Int) then ((R1_Space.f (bt x0 x1)).bind fun t171 => (if t171 = true then (R1_Skip.l0 k x0 (wrap64 (x1 + 1))) else (some x1))) else (none)) else (none)) else (some x1)
end
def R1_Skip.f (k : Nat) (a0 : ByteArray) (a1 : Int) : Option (Int) := R1_Skip.l0 k a0 a1
set_option maxHeartbeats 8000000 in
set_option maxRecDepth 100000 in
theorem R1_Skip.calls (k : Nat) (a0 : ByteArray) (a1 : Int) (r : Int) (w : World) (h : R1_Skip.f k a0 a1 = some r) :
 Calls Tryz.prog 67 #[.string a0, .int .i64 a1] w fun e w' => e = .returned (.int .i64 r) ∧ Drawn0 w w' := by
 have H : (R1_Skip.l0 k a0 a1) = some r := h
 clear h
 have H' := Aside0.mk H
 clear H
 go_enter Tryz.func67, Tryz.ntmps67
 go_wp2
 go_loopg [1] k (fun kq v1 w' => ∃ (x1_1 : Int), v1 = .int .i64 x1_1 ∧ Aside0 (R1_Skip.l0 kq a0 x1_1 = some r) ∧ Aside0 (kq ≤ k) ∧ Drawn0 w w')
 case atStart => exact ⟨(a1), (zz19), H', ⟨Nat.le_refl _⟩, zz1⟩
 case round =>
  clear H'
  try clear p2
  obtain ⟨x1_1, rfl, HA, HK1, ⟨m1, rfl⟩⟩ := hrel
  cases gk with
  | zero => exact absurd HA.out (by simp [R1_Skip.l0])
  | succ k1 =>
   have H := HA.out
   clear HA
   simp only [R1_Skip.l0] at H
   have HC3 := Aside0.mk H
   clear H
   go_upto_region 1 with (fail)
   go_cut [13] (fun v13 wc => ∃ (kq : Nat) (x13_2 : Bool), v13 = .bool x13_2 ∧ Aside0 (R1_Skip.j1 kq a0 x1_1 x13_2 = some r) ∧ Aside0 (kq ≤ k1) ∧ Drawn0 w wc)
   case first =>
    have H := HC3.out
    clear HC3
    by_cases c4 : x1_1 ≥ 0
    ·rw [if_pos c4] at H
     have c4b0 : decide (0 ≤ x1_1) = true := decide_eq_true c4
     clear c4
     (first | rw [c4b0] | (simp only [i64_w, i32_w]; rw [c4b0]) | skip)
     have H' := Aside0.mk H
     clear H
     go_wp2
     go_meet
     case rel => exact ⟨_, (decide (x1_1 < (a0.size : Int))), (zz19), H', ⟨by have := HK1.out; first | omega | exact Nat.le_refl _⟩, zz1⟩
    ·rw [if_neg c4] at H
     have c4b0 : decide (0 ≤ x1_1) = false := decide_eq_false c4
     clear c4
     (first | rw [c4b0] | (simp only [i64_w, i32_w]; rw [c4b0]) | skip)
     have H' := Aside0.mk H
     clear H
     go_wp2
     go_meet
     case rel => exact ⟨_, (false), (zz19), H', ⟨by have := HK1.out; first | omega | exact Nat.le_refl _⟩, zz1⟩
   case rest =>
    clear HC3
    try clear p2
    try clear c4
    try clear c4b0
    try clear p2
    obtain ⟨kq, x13_2, rfl, HA, HJ2, ⟨mc2, rfl⟩⟩ := hcut
    cases kq with
    | zero => exact absurd HA.out (by simp [R1_Skip.j1])
    | succ kj2 =>
     have H := HA.out
     clear HA
     simp only [R1_Skip.j1] at H
     by_cases c5 : x13_2 = true
     ·subst c5
      have H1 : (if 0 ≤ x1_1 then (if x1_1 < (a0.size : Int) then ((R1_Space.f (bt a0 x1_1)).bind fun t171 => (if t171 = true then (R1_Skip.l0 kj2 a0 (wrap64 (x1_1 + 1))) else (some x1_1))) else (none)) else (none)) = some r := by rw [if_pos rfl] at H; exact H
      clear H
      have H := H1
      clear H1
      by_cases c6 : 0 ≤ x1_1
      ·rw [if_pos c6] at H
       have c6b0 : decide (0 ≤ x1_1) = true := decide_eq_true c6
       clear c6
       by_cases c7 : x1_1 < (a0.size : Int)
       ·rw [if_pos c7] at H
        have c7b0 : decide (x1_1 < (a0.size : Int)) = true := decide_eq_true c7
        clear c7
        replace H := Option.bind_eq_some_iff.mp H
        obtain ⟨t171, A90, H⟩ := H
        replace H : (if t171 = true then (R1_Skip.l0 kj2 a0 (wrap64 (x1_1 + 1))) else (some x1_1)) = some r := H
        have A9 := Aside0.mk A90
        clear A90
        by_cases c10 : t171 = true
        ·subst c10
         have H1 : (R1_Skip.l0 kj2 a0 (wrap64 (x1_1 + 1))) = some r := by rw [if_pos rfl] at H; exact H
         clear H
         have H := H1
         clear H1
         have H' := Aside0.mk H
         clear H
         have p8 : 0 ≤ (x1_1 : Int) := of_decide_eq_true (by first | (with_reducible assumption) | assumption)
         have q8 : x1_1 < (a0.size : Int) := of_decide_eq_true (by first | (with_reducible assumption) | assumption)
         have hx8 := bt_at a0 x1_1
         replace p8 := eq_true p8
         replace q8 := eq_true q8
         go_wp2_with (first | ((with_reducible refine gate_callee (f := 97) rfl ?_); refine goesL_ (some 17) rfl rfl Tryz.func97 (by kernel_rfl) rfl #[.int .u8 (bt a0 x1_1)] rfl (zz4) ?_; (with_reducible refine (R1_Space.calls (bt a0 x1_1) true _ A9.out).mono ?_); rintro e w' ⟨rfl, ⟨nd, rfl⟩⟩; refine ⟨_, rfl, ?_⟩))
         go_roundg kj2
         case measure => have := HK1.out; have := HJ2.out; omega
         case rel => exact ⟨(wrap64 (x1_1 + 1)), (zz19), H', ⟨by have := HK1.out; have := HJ2.out; omega⟩, zz1⟩
        ·replace c10 := Bool.eq_false_iff.mpr c10
         subst c10
         have H1 : (some x1_1) = some r := by rw [if_neg (show ¬ (false = true) by decide)] at H; exact H
         clear H
         have H := H1
         clear H1
         obtain rfl := Option.some.inj H
         have p8 : 0 ≤ (x1_1 : Int) := of_decide_eq_true (by first | (with_reducible assumption) | assumption)
         have q8 : x1_1 < (a0.size : Int) := of_decide_eq_true (by first | (with_reducible assumption) | assumption)
         have hx8 := bt_at a0 x1_1
         replace p8 := eq_true p8
         replace q8 := eq_true q8
         go_wp2_with (first | ((with_reducible refine gate_callee (f := 97) rfl ?_); refine goesL_ (some 17) rfl rfl Tryz.func97 (by kernel_rfl) rfl #[.int .u8 (bt a0 x1_1)] rfl (zz4) ?_; (with_reducible refine (R1_Space.calls (bt a0 x1_1) false _ A9.out).mono ?_); rintro e w' ⟨rfl, ⟨nd, rfl⟩⟩; refine ⟨_, rfl, ?_⟩))
         go_ret
         exact zz6
       ·rw [if_neg c7] at H
        exact absurd H (by simp)
      ·rw [if_neg c6] at H
       exact absurd H (by simp)
     ·replace c5 := Bool.eq_false_iff.mpr c5
      subst c5
      have H1 : (some x1_1) = some r := by rw [if_neg (show ¬ (false = true) by decide)] at H; exact H
      clear H
      have H := H1
      clear H1
      obtain rfl := Option.some.inj H
      go_wp2
      go_ret
      exact zz6
end Go.Proofs.YtlhhhlimjajnlaaGreat.Q
end
section
namespace Go.Proofs.YtlhhhlimjajnlaaGreat.X
end Go.Proofs.YtlhhhlimjajnlaaGreat.X
namespace Go.Proofs.YtlhhhlimjajnlaaGreat.Q
open Go.RowKit Go.Proofs.YtlhhhlimjajnlaaGreatW.PrintWords Go.Proofs.YtlhhhlimjajnlaaGreatW.PrintLast Go.Proofs.YtlhhhlimjajnlaaGreatW.PrintMore
attribute [local go_sem] max2_int min2_int max_two min_two max_three min_three max_four min_four   
open Go.Proofs.YtlhhhlimjajnlaaGreat.X
set_option linter.unusedVariables false
set_option linter.unusedSimpArgs false
def R2_begins.f (a0 : ByteArray) (a1 : Int) (a2 : ByteArray) : Option (Bool) := if (wrap64 (a1 + (a2.size : Int))) ≤ (a0.size : Int) then (if 0 ≤ a1 then (if a1 ≤ (wrap64 (a1 + (a2.size : Int))) then (some ((a0.extract (a1 : Int).toNat ((wrap64 (a1 + (a2.size : Int))) : Int).toNat).toList == a2.toList)) else (none)) else (none)) else (some false)
set_option maxHeartbeats 8000000 in
set_option maxRecDepth 100000 in
theorem R2_begins.calls (a0 : ByteArray) (a1 : Int) (a2 : ByteArray) (r : Bool) (w : World) (h : R2_begins.f a0 a1 a2 = some r) :
 Calls Tryz.prog 93 #[.string a0, .int .i64 a1, .string a2] w fun e w' => e = .returned (.bool r) ∧ Drawn0 w w' := by
 have H : (if (wrap64 (a1 + (a2.size : Int))) ≤ (a0.size : Int) then (if 0 ≤ a1 then (if a1 ≤ (wrap64 (a1 + (a2.size : Int))) then (some ((a0.extract (a1 : Int).toNat ((wrap64 (a1 + (a2.size : Int))) : Int).toNat).toList == a2.toList)) else (none)) else (none)) else (some false)) = some r := h
 clear h
 by_cases c4 : (wrap64 (a1 + (a2.size : Int))) ≤ (a0.size : Int)
 ·rw [if_pos c4] at H
  have c4b0 : decide ((wrap64 (a1 + (a2.size : Int))) ≤ (a0.size : Int)) = true := decide_eq_true c4
  clear c4
  by_cases c5 : 0 ≤ a1
  ·rw [if_pos c5] at H
   have c5b0 := eq_true c5
   have c5b1 : decide (0 ≤ a1) = true := decide_eq_true c5
   clear c5
   by_cases c6 : a1 ≤ (wrap64 (a1 + (a2.size : Int)))
   ·rw [if_pos c6] at H
    have c6b0 := eq_true c6
    have c6b1 : decide (a1 ≤ (wrap64 (a1 + (a2.size : Int)))) = true := decide_eq_true c6
    have c7b0 := eq_true (of_decide_eq_true (zz9) : (wrap64 (a1 + (a2.size : Int))) ≤ (a0.size : Int))
    obtain rfl := Option.some.inj H
    go_enter Tryz.func93, Tryz.ntmps93
    go_wp2
    go_ret
    exact zz13
   ·rw [if_neg c6] at H
    exact absurd H (by simp)
  ·rw [if_neg c5] at H
   exact absurd H (by simp)
 ·rw [if_neg c4] at H
  have c4b0 : decide ((wrap64 (a1 + (a2.size : Int))) ≤ (a0.size : Int)) = false := decide_eq_false c4
  clear c4
  obtain rfl := Option.some.inj H
  go_enter Tryz.func93, Tryz.ntmps93
  go_wp2
  go_ret
  exact zz13
def R2_find.l0 : Nat → ByteArray → ByteArray → Int → Option (Int)
 | 0, _, _, _ => none
 | k + 1, x0, x2, x7 => if (wrap64 (x7 + (x2.size : Int))) ≤ (x0.size : Int) then (if 0 ≤ x7 then (if x7 ≤ (wrap64 (x7 + (x2.size : Int))) then (if (x0.extract (x7 : Int).toNat ((wrap64 (x7 + (x2.size : Int))) : Int).toNat).toList = x2.toList then (some x7) else (R2_find.l0 k x0 x2 (wrap64 (x7 + 1)))) else (none)) else (none)) else (some (-1))
def R2_find.f (k : Nat) (a0 : ByteArray) (a1 : Int) (a2 : ByteArray) : Option (Int) := R2_find.l0 k a0 a2 a1
set_option maxHeartbeats 8000000 in
set_option maxRecDepth 100000 in
theorem R2_find.calls (k : Nat) (a0 : ByteArray) (a1 : Int) (a2 : ByteArray) (r : Int) (w : World) (h : R2_find.f k a0 a1 a2 = some r) :
 Calls Tryz.prog 94 #[.string a0, .int .i64 a1, .string a2] w fun e w' => e = .returned (.int .i64 r) ∧ Drawn0 w w' := by
 have H : (R2_find.l0 k a0 a2 a1) = some r := h
 clear h
 have H' := Aside0.mk H
 clear H
 go_enter Tryz.func94, Tryz.ntmps94
 go_wp2
 go_loopg [7] k (fun kq v7 w' => ∃ (x7_1 : Int), v7 = .int .i64 x7_1 ∧ Aside0 (R2_find.l0 kq a0 a2 x7_1 = some r) ∧ Aside0 (kq ≤ k) ∧ Drawn0 w w')
 case atStart => exact ⟨(a1), (by rfl), H', ⟨Nat.le_refl _⟩, by repeat (exact Drawn0.refl _)⟩
 case round =>
  clear H'
  obtain ⟨x7_1, rfl, HA, HK1, ⟨m1, rfl⟩⟩ := hrel
  cases gk with
  | zero => exact absurd HA.out (by simp [R2_find.l0])
  | succ k1 =>
   have H := HA.out
   clear HA
   simp only [R2_find.l0] at H
   revert H; refine X.ite_d (fun c4b0 H => ?_) (fun c4b0 H => ?_)
   by_cases c5 : 0 ≤ x7_1
   rw [if_pos c5] at H
   have c5b0 := eq_true c5
   have c5b1 : decide (0 ≤ x7_1) = true := decide_eq_true c5
   clear c5
   by_cases c6 : x7_1 ≤ (wrap64 (x7_1 + (a2.size : Int)))
   rw [if_pos c6] at H
   have c6b0 := eq_true c6
   have c6b1 : decide (x7_1 ≤ (wrap64 (x7_1 + (a2.size : Int)))) = true := decide_eq_true c6
   have c7b0 := eq_true (of_decide_eq_true (zz9) : (wrap64 (x7_1 + (a2.size : Int))) ≤ (a0.size : Int))
   revert H; refine X.ite_b (fun c8b0 c8b1 H => ?_) (fun c8b0 c8b1 H => ?_)
   rotate_left
   rotate_left
   ·rw [if_neg c6] at H
    exact absurd H (by simp)
   ·rw [if_neg c5] at H
    exact absurd H (by simp)
   ·obtain rfl := Option.some.inj H
    go_wp2
    go_ret
    exact ⟨by rfl, zz1⟩
   all_goals first
   | (obtain rfl := Option.some.inj H
      go_wp2
      go_ret
      exact ⟨by rfl, zz1⟩)
   | (have H' := Aside0.mk H
      clear H
      go_wp2
      go_roundg k1
      case measure => have := HK1.out; omega
      case rel => exact ⟨(wrap64 (x7_1 + 1)), (by rfl), H', ⟨by have := HK1.out; omega⟩, zz1⟩)
end Go.Proofs.YtlhhhlimjajnlaaGreat.Q
end
