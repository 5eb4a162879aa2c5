/- Parts of the proof of canonSpoilt_holds, kept and merged by a program of mine (wip/tools/slim.py) out of my texts: Q11 Q12 Q20 -/
import Derived.Test.YtlhhhlimjajnlaaGreatSSp0
import Derived.Test.YtlhhhlimjajnlaaGreatSSp4
section
namespace Go.Proofs.YtlhhhlimjajnlaaGreat.X
end Go.Proofs.YtlhhhlimjajnlaaGreat.X
namespace Go.Proofs.YtlhhhlimjajnlaaGreat.Q
open Go.RowKit Go.Proofs.YtlhhhlimjajnlaaGreatW.PrintWords Go.Proofs.YtlhhhlimjajnlaaGreatW.PrintLast Go.Proofs.YtlhhhlimjajnlaaGreatW.PrintMore
attribute [local go_sem] max2_int min2_int max_two min_two max_three min_three max_four min_four   
open Go.Proofs.YtlhhhlimjajnlaaGreat.X
set_option linter.unusedVariables false
set_option linter.unusedSimpArgs false
mutual
def R1_Rune.j0 : Nat → ByteArray → Int → Bool → Option (Int × Int)
 | 0, _, _, _ => none
 | k + 1, x0, x1, x19 => if x19 = true then (some ((-1), 0)) else (R1_Rune.l0 k x0 x1 1)
def R1_Rune.l0 : Nat → ByteArray → Int → Int → Option (Int × Int)
 | 0, _, _, _ => none
 | k + 1, x0, x1, x6 => if x6 ≤ 4 then (R1_Rune.j2 k x0 x1 x6 (decide (x6 ≤ (wrap64 ((x0.size : Int) - x1))))) else (R1_Rune.j2 k x0 x1 x6 false)
def R1_Rune.j2 : Nat → ByteArray → Int → Int → Bool → Option (Int × Int)
 | 0, _, _, _, _ => none
 | k + 1, x0, x1, x6, x29 => if x29 = true then (R1_Rune.l1 k x0 x1 x6 0 0) else (some ((-1), 0))
def R1_Rune.l1 : Nat → ByteArray → Int → Int → Int → Int → Option (Int × Int)
 | 0, _, _, _, _, _ => none
 | k + 1, x0, x1, x6, x7, x8 => if x8 < x6 then (if 0 ≤ (wrap64 (x1 + x8)) then (if (wrap64 (x1 + x8)) < (x0.size : Int) then (if x8 = 0 then (if x6 = 2 then (R1_Rune.j4 k x0 x1 x6 x8 (wrap64 (bt x0 (wrap64 (x1 + x8)))) 192) else (R1_Rune.j4 k x0 x1 x6 x8 (wrap64 (bt x0 (wrap64 (x1 + x8)))) 0)) else (R1_Rune.l1 k x0 x1 x6 (wrap64 ((wrap64 ((wrap64 (x7 * 64)) + (wrap64 (bt x0 (wrap64 (x1 + x8)))))) - 128)) (wrap64 (x8 + 1)))) else (none)) else (none)) else ((R1_Encode.f x7).bind fun t167 => (if t167.toList = ([] : List UInt8) then (R1_Rune.l0 k x0 x1 (wrap64 (x6 + 1))) else (if 0 ≤ x1 then (if x1 ≤ (wrap64 (x1 + x6)) then (if (wrap64 (x1 + x6)) ≤ (x0.size : Int) then (if t167.toList = (x0.extract (x1 : Int).toNat ((wrap64 (x1 + x6)) : Int).toNat).toList then (some (x7, x6)) else (R1_Rune.l0 k x0 x1 (wrap64 (x6 + 1)))) else (none)) else (none)) else (none))))
def R1_Rune.j4 : Nat → ByteArray → Int → Int → Int → Int → Int → Option (Int × Int)
 | 0, _, _, _, _, _, _ => none
 | k + 1, x0, x1, x6, x8, x9, x10 => if x6 = 3 then (if x6 = 4 then (R1_Rune.l1 k x0 x1 x6 (wrap64 (x9 - 240)) (wrap64 (x8 + 1))) else (R1_Rune.l1 k x0 x1 x6 (wrap64 (x9 - 224)) (wrap64 (x8 + 1)))) else (if x6 = 4 then (R1_Rune.l1 k x0 x1 x6 (wrap64 (x9 - 240)) (wrap64 (x8 + 1))) else (R1_Rune.l1 k x0 x1 x6 (wrap64 (x9 - x10)) (wrap64 (x8 + 1))))
end
def R1_Rune.f (k : Nat) (a0 : ByteArray) (a1 : Int) : Option (Int × Int) := if a1 < 0 then (R1_Rune.j0 k a0 a1 true) else (R1_Rune.j0 k a0 a1 (decide (a1 ≥ (a0.size : Int))))
set_option maxHeartbeats 8000000 in
set_option maxRecDepth 100000 in
theorem R1_Rune.calls (k : Nat) (a0 : ByteArray) (a1 : Int) (r1 : Int) (r2 : Int) (w : World) (h : R1_Rune.f k a0 a1 = some (r1, r2)) :
 Calls Tryz.prog 91 #[.string a0, .int .i64 a1] w fun e w' => e = .returned (.tuple #[.int .i64 r1, .int .i64 r2]) ∧ Below w.heap.size w w' := by
 have HB := Aside0.mk (Below.refl w.heap.size w)
 have H : (if a1 < 0 then (R1_Rune.j0 k a0 a1 true) else (R1_Rune.j0 k a0 a1 (decide (a1 ≥ (a0.size : Int))))) = some (r1, r2) := h
 clear h
 have HC3 := Aside0.mk H
 clear H
 go_enter Tryz.func91, Tryz.ntmps91
 go_upto_region 1 with (fail)
 go_cut [19] (fun v19 wc => ∃ (kq : Nat) (x19_2 : Bool), v19 = .bool x19_2 ∧ Aside0 (R1_Rune.j0 kq a0 a1 x19_2 = some (r1, r2)) ∧ Aside0 (kq ≤ k) ∧ Aside0 (Below w.heap.size w wc))
 case first =>
  have H := HC3.out
  clear HC3
  revert H; refine X.ite_d (fun c4b0 H => ?_) (fun c4b0 H => ?_)
  rotate_left
  rotate_left
  all_goals
   have H' := Aside0.mk H
   clear H
   go_wp2
   go_meet
   case rel => first | (exact ⟨_, (true), (by rfl), H', ⟨by first | omega | exact Nat.le_refl _⟩, ⟨zz7⟩⟩) | (exact ⟨_, (decide (a1 ≥ (a0.size : Int))), (by rfl), H', ⟨by omega⟩, ⟨zz7⟩⟩)
 case rest =>
  clear HC3
  obtain ⟨kq, x19_2, rfl, HA, HJ2, HB⟩ := hcut
  cases kq with
  | zero => exact absurd HA.out (by simp [R1_Rune.j0])
  | succ kj2 =>
   have H := HA.out
   clear HA
   simp only [R1_Rune.j0] at H
   by_cases c5 : x19_2 = true
   ·subst c5
    rw [if_pos rfl] at H
    simp only [Option.some.injEq, Prod.mk.injEq] at H
    obtain ⟨rfl, rfl⟩ := H
    go_wp2
    go_ret2
    exact ⟨by rfl, zz7⟩
   ·replace c5 := Bool.eq_false_iff.mpr c5
    subst c5
    rw [if_neg (show ¬ (false = true) by decide)] at H
    have H' := Aside0.mk H
    clear H
    go_wp2
    go_loopg [6] kj2 (fun kq v6 w' => ∃ (x6_2 : Int), v6 = .int .i64 x6_2 ∧ Aside0 (R1_Rune.l0 kq a0 a1 x6_2 = some (r1, r2)) ∧ Aside0 (kq ≤ kj2) ∧ Aside0 (Below w.heap.size w w'))
    case atStart => exact ⟨(1), (by rfl), H', ⟨Nat.le_refl _⟩, ⟨zz7⟩⟩
    case round =>
     clear H'
     obtain ⟨x6_2, rfl, HA, HK2, HB⟩ := hrel
     cases gk with
     | zero => exact absurd HA.out (by simp [R1_Rune.l0])
     | succ k2 =>
      have H := HA.out
      clear HA
      simp only [R1_Rune.l0] at H
      have HC6 := Aside0.mk H
      clear H
      go_upto_region 4 with (fail)
      go_cut [29] (fun v29 wc => ∃ (kq : Nat) (x29_5 : Bool), v29 = .bool x29_5 ∧ Aside0 (R1_Rune.j2 kq a0 a1 x6_2 x29_5 = some (r1, r2)) ∧ Aside0 (kq ≤ k2) ∧ Aside0 (Below w.heap.size w wc))
      case first =>
       have H := HC6.out
       clear HC6
       revert H; refine X.ite_d (fun c7b0 H => ?_) (fun c7b0 H => ?_)
       rotate_left
       rotate_left
       all_goals
        have H' := Aside0.mk H
        clear H
        go_wp2
        go_meet
        case rel => first | (exact ⟨_, (decide (x6_2 ≤ (wrap64 ((a0.size : Int) - a1)))), (by rfl), H', ⟨by have := HJ2.out; have := HK2.out; first | omega | exact Nat.le_refl _⟩, ⟨zz7⟩⟩) | (exact ⟨_, (false), (by rfl), H', ⟨by have := HJ2.out; have := HK2.out; omega⟩, ⟨zz7⟩⟩)
      case rest =>
       clear HC6
       obtain ⟨kq, x29_5, rfl, HA, HJ5, HB⟩ := hcut
       cases kq with
       | zero => exact absurd HA.out (by simp [R1_Rune.j2])
       | succ kj5 =>
        have H := HA.out
        clear HA
        simp only [R1_Rune.j2] at H
        by_cases c8 : x29_5 = true
        ·subst c8
         rw [if_pos rfl] at H
         have H' := Aside0.mk H
         clear H
         go_wp2
         go_loopg [7, 8] kj5 (fun kq v7 v8 w' => ∃ (x7_4 : Int) (x8_4 : Int), v7 = .int .i64 x7_4 ∧ v8 = .int .i64 x8_4 ∧ Aside0 (R1_Rune.l1 kq a0 a1 x6_2 x7_4 x8_4 = some (r1, r2)) ∧ Aside0 (kq ≤ kj5) ∧ Aside0 (Below w.heap.size w w'))
         case atStart => exact ⟨(0), (0), (by rfl), (by rfl), H', ⟨Nat.le_refl _⟩, ⟨zz7⟩⟩
         case round =>
          clear H'
          obtain ⟨x7_4, x8_4, rfl, rfl, HA, HK4, HB⟩ := hrel
          cases gk with
          | zero => exact absurd HA.out (by simp [R1_Rune.l1])
          | succ k4 =>
           have H := HA.out
           clear HA
           simp only [R1_Rune.l1] at H
           revert H; refine X.ite_d (fun c9b0 H => ?_) (fun c9b0 H => ?_)
           obtain ⟨ji10, hji10⟩ : ∃ j_ : Int, (wrap64 (a1 + x8_4)) = j_ := ⟨_, rfl⟩
           replace H : (if 0 ≤ (ji10) then (if (ji10) < (a0.size : Int) then (if x8_4 = 0 then (if x6_2 = 2 then (R1_Rune.j4 k4 a0 a1 x6_2 x8_4 (wrap64 (bt a0 (ji10))) 192) else (R1_Rune.j4 k4 a0 a1 x6_2 x8_4 (wrap64 (bt a0 (ji10))) 0)) else (R1_Rune.l1 k4 a0 a1 x6_2 (wrap64 ((wrap64 ((wrap64 (x7_4 * 64)) + (wrap64 (bt a0 (ji10))))) - 128)) (wrap64 (x8_4 + 1)))) else (none)) else (none)) = some (r1, r2) := by ((rw [hji10] at H; exact H))
           have hji10w : (IntKind.i64.wrap (a1 + x8_4)) = ji10 := (i64_w _).trans hji10
           by_cases c11 : 0 ≤ (ji10)
           rw [if_pos c11] at H
           have c11b0 : decide (0 ≤ (ji10)) = true := decide_eq_true c11
           clear c11
           by_cases c12 : (ji10) < (a0.size : Int)
           rw [if_pos c12] at H
           have c12b0 : decide ((ji10) < (a0.size : Int)) = true := decide_eq_true c12
           clear c12
           revert H; refine X.ite_b (fun c14b0 c14b1 H => ?_) (fun c14b0 c14b1 H => ?_)
           ·have HC15 := Aside0.mk H
            clear H
            have p13 : 0 ≤ ((ji10) : Int) := of_decide_eq_true (zz13)
            have q13 : (ji10) < (a0.size : Int) := of_decide_eq_true (zz13)
            have hx13 := bt_at a0 (ji10)
            replace p13 := eq_true p13
            replace q13 := eq_true q13
            go_upto_if 46 with (fail)
            go_cut [10] (fun v10 wc => ∃ (kq : Nat) (x10_14 : Int), v10 = .int .i64 x10_14 ∧ Aside0 (R1_Rune.j4 kq a0 a1 x6_2 x8_4 (wrap64 (bt a0 (ji10))) x10_14 = some (r1, r2)) ∧ Aside0 (kq ≤ k4) ∧ Aside0 (Below w.heap.size w wc))
            case first =>
             have H := HC15.out
             clear HC15
             revert H; refine X.ite_b (fun c16b0 c16b1 H => ?_) (fun c16b0 c16b1 H => ?_)
             (rw [c16b0])
             rotate_left
             (rw [c16b0])
             rotate_left
             all_goals
              have H' := Aside0.mk H
              clear H
              go_wp2
              go_meet
              case rel => first | (exact ⟨_, (192), (by rfl), H', ⟨by have := HJ2.out; have := HK2.out; have := HJ5.out; have := HK4.out; first | omega | exact Nat.le_refl _⟩, ⟨zz7⟩⟩) | (exact ⟨_, (0), (by rfl), H', ⟨by have := HJ2.out; have := HK2.out; have := HJ5.out; have := HK4.out; omega⟩, ⟨zz7⟩⟩)
            case rest =>
             clear HC15
             clear c9b0
             clear c11b0
             clear c12b0
             clear p13
             clear q13
             clear hx13
             clear c14b0
             clear c14b1
             obtain ⟨kq, x10_14, rfl, HA, HJ14, HB⟩ := hcut
             cases kq with
             | zero => exact absurd HA.out (by simp [R1_Rune.j4])
             | succ kj14 =>
              have H := HA.out
              clear HA
              simp only [R1_Rune.j4] at H
              revert H; refine X.ite_b (fun c17b0 c17b1 H => ?_) (fun c17b0 c17b1 H => ?_)
              revert H; refine X.ite_b (fun c18b0 c18b1 H => ?_) (fun c18b0 c18b1 H => ?_)
              rotate_left
              rotate_left
              revert H; refine X.ite_b (fun c19b0 c19b1 H => ?_) (fun c19b0 c19b1 H => ?_)
              rotate_left
              rotate_left
              all_goals
               have H' := Aside0.mk H
               clear H
               go_wp2
               go_roundg kj14
               case measure => have := HJ2.out; have := HK2.out; have := HJ5.out; have := HK4.out; have := HJ14.out; omega
               case rel => first | (exact ⟨(wrap64 ((wrap64 (bt a0 (ji10))) - 240)), (wrap64 (x8_4 + 1)), (by rfl), (by rfl), H', ⟨by have := HJ2.out; have := HK2.out; have := HJ5.out; have := HK4.out; have := HJ14.out; omega⟩, ⟨zz7⟩⟩) | (exact ⟨(wrap64 ((wrap64 (bt a0 (ji10))) - 224)), (wrap64 (x8_4 + 1)), (by rfl), (by rfl), H', ⟨by have := HJ2.out; have := HK2.out; have := HJ5.out; have := HK4.out; have := HJ14.out; omega⟩, ⟨zz7⟩⟩) | (exact ⟨(wrap64 ((wrap64 (bt a0 (ji10))) - x10_14)), (wrap64 (x8_4 + 1)), (by rfl), (by rfl), H', ⟨by have := HJ2.out; have := HK2.out; have := HJ5.out; have := HK4.out; have := HJ14.out; omega⟩, ⟨zz7⟩⟩)
           rotate_left
           ·rw [if_neg c12] at H
            exact absurd H (by simp)
           ·rw [if_neg c11] at H
            exact absurd H (by simp)
           replace H := Option.bind_eq_some_iff.mp H
           obtain ⟨t167, A200, H⟩ := H
           have A20 := Aside0.mk A200
           clear A200
           revert H; refine X.ite_b (fun c21b0 c21b1 H => ?_) (fun c21b0 c21b1 H => ?_)
           rotate_left
           by_cases c23 : 0 ≤ a1
           rw [if_pos c23] at H
           have c23b0 := eq_true c23
           have c23b1 : decide (0 ≤ a1) = true := decide_eq_true c23
           clear c23
           by_cases c24 : a1 ≤ (wrap64 (a1 + x6_2))
           rw [if_pos c24] at H
           have c24b0 := eq_true c24
           have c24b1 : decide (a1 ≤ (wrap64 (a1 + x6_2))) = true := decide_eq_true c24
           by_cases c25 : (wrap64 (a1 + x6_2)) ≤ (a0.size : Int)
           rw [if_pos c25] at H
           have c25b0 := eq_true c25
           have c25b1 : decide ((wrap64 (a1 + x6_2)) ≤ (a0.size : Int)) = true := decide_eq_true c25
           revert H; refine X.ite_b (fun c26b0 c26b1 H => ?_) (fun c26b0 c26b1 H => ?_)
           rotate_left
           rotate_left
           ·rw [if_neg c25] at H
            exact absurd H (by simp)
           ·rw [if_neg c24] at H
            exact absurd H (by simp)
           ·rw [if_neg c23] at H
            exact absurd H (by simp)
           all_goals first
           | (have H' := Aside0.mk H
              clear H
              have p13 : 0 ≤ ((ji10) : Int) := of_decide_eq_true (zz13)
              have q13 : (ji10) < (a0.size : Int) := of_decide_eq_true (zz13)
              have hx13 := bt_at a0 (ji10)
              replace p13 := eq_true p13
              replace q13 := eq_true q13
              go_wp2
              go_roundg k4
              case measure => have := HJ2.out; have := HK2.out; have := HJ5.out; have := HK4.out; omega
              case rel => exact ⟨(wrap64 ((wrap64 ((wrap64 (x7_4 * 64)) + (wrap64 (bt a0 (ji10))))) - 128)), (wrap64 (x8_4 + 1)), (by rfl), (by rfl), H', ⟨by have := HJ2.out; have := HK2.out; have := HJ5.out; have := HK4.out; omega⟩, ⟨zz7⟩⟩)
           | (have H' := Aside0.mk H
              clear H
              go_wp2_with ((((with_reducible refine gate_callee (f := 116) rfl ?_); refine goesL_ (some 60) rfl rfl Tryz.func116 (by kernel_rfl) rfl #[.int .i64 x7_4] rfl (zz3) ?_; (with_reducible refine (R1_Encode.calls x7_4 t167 _ A20.out).mono ?_); rintro e wz1 ⟨rfl, hb⟩; refine ⟨_, rfl, ?_⟩; have n0_ := Aside0.mk (below_step (zz7) hb); clear HB; have HB := n0_; clear n0_; (clear hb))))
              go_roundg k4
              case measure => have := HJ2.out; have := HK2.out; have := HJ5.out; have := HK4.out; omega
              case rel => exact ⟨(wrap64 (x6_2 + 1)), (by rfl), H', ⟨by have := HJ2.out; have := HK2.out; have := HJ5.out; have := HK4.out; omega⟩, ⟨zz7⟩⟩)
           | (simp only [Option.some.injEq, Prod.mk.injEq] at H
              obtain ⟨rfl, rfl⟩ := H
              go_wp2_with ((((with_reducible refine gate_callee (f := 116) rfl ?_); refine goesL_ (some 60) rfl rfl Tryz.func116 (by kernel_rfl) rfl #[.int .i64 x7_4] rfl (zz3) ?_; (with_reducible refine (R1_Encode.calls x7_4 t167 _ A20.out).mono ?_); rintro e wz1 ⟨rfl, hb⟩; refine ⟨_, rfl, ?_⟩; have n0_ := Aside0.mk (below_step (zz7) hb); clear HB; have HB := n0_; clear n0_; (clear hb))))
              go_ret2
              exact ⟨by rfl, zz7⟩)
        ·replace c8 := Bool.eq_false_iff.mpr c8
         subst c8
         rw [if_neg (show ¬ (false = true) by decide)] at H
         simp only [Option.some.injEq, Prod.mk.injEq] at H
         obtain ⟨rfl, rfl⟩ := H
         go_wp2
         go_ret2
         exact ⟨by rfl, zz7⟩
def R1_Valid.l0 : Nat → ByteArray → Int → Option (Bool)
 | 0, _, _ => none
 | k + 1, x0, x3 => if x3 < (x0.size : Int) then ((R1_Rune.f k x0 x3).bind fun bt168 => ((R1_Allowed.f bt168.1).bind fun t170 => (if bt168.2 = 0 then (some false) else (if t170 = true then (R1_Valid.l0 k x0 (wrap64 (x3 + bt168.2))) else (some false))))) else (some true)
def R1_Valid.f (k : Nat) (a0 : ByteArray) : Option (Bool) := R1_Valid.l0 k a0 0
set_option maxHeartbeats 8000000 in
set_option maxRecDepth 100000 in
theorem R1_Valid.calls (k : Nat) (a0 : ByteArray) (r : Bool) (w : World) (h : R1_Valid.f k a0 = some r) :
 Calls Tryz.prog 65 #[.string a0] w fun e w' => e = .returned (.bool r) ∧ Below w.heap.size w w' := by
 have HB := Aside0.mk (Below.refl w.heap.size w)
 have H : (R1_Valid.l0 k a0 0) = some r := h
 clear h
 have H' := Aside0.mk H
 clear H
 go_enter Tryz.func65, Tryz.ntmps65
 go_wp2
 go_loopg [3] k (fun kq v3 w' => ∃ (x3_1 : Int), v3 = .int .i64 x3_1 ∧ Aside0 (R1_Valid.l0 kq a0 x3_1 = some r) ∧ Aside0 (kq ≤ k) ∧ Aside0 (Below w.heap.size w w'))
 case atStart => exact ⟨(0), (by rfl), H', ⟨Nat.le_refl _⟩, ⟨zz7⟩⟩
 case round =>
  clear H'
  obtain ⟨x3_1, rfl, HA, HK1, HB⟩ := hrel
  cases gk with
  | zero => exact absurd HA.out (by simp [R1_Valid.l0])
  | succ k1 =>
   have H := HA.out
   clear HA
   simp only [R1_Valid.l0] at H
   revert H; refine X.ite_d (fun c2b0 H => ?_) (fun c2b0 H => ?_)
   replace H := Option.bind_eq_some_iff.mp H
   obtain ⟨⟨t168, t169⟩, A30, H⟩ := H
   dsimp only at H
   have A3 := Aside0.mk A30
   clear A30
   replace H := Option.bind_eq_some_iff.mp H
   obtain ⟨t170, A40, H⟩ := H
   have A4 := Aside0.mk A40
   clear A40
   revert H; refine X.ite_b (fun c5b0 c5b1 H => ?_) (fun c5b0 c5b1 H => ?_)
   rotate_left
   by_cases c7 : t170 = true
   subst c7
   rw [if_pos rfl] at H
   rotate_left
   replace c7 := Bool.eq_false_iff.mpr c7
   subst c7
   rw [if_neg (show ¬ (false = true) by decide)] at H
   rotate_left
   ·obtain rfl := Option.some.inj H
    go_wp2
    go_ret
    exact ⟨by rfl, zz7⟩
   all_goals first
   | (obtain rfl := Option.some.inj H
      go_wp2_with (first | ((with_reducible refine gate_callee (f := 91) rfl ?_); refine goesL_ (some 14) rfl rfl Tryz.func91 (by kernel_rfl) rfl #[.string a0, .int .i64 x3_1] rfl (zz3) ?_; (with_reducible refine (R1_Rune.calls k1 a0 x3_1 t168 t169 _ A3.out).mono ?_); rintro e wz1 ⟨rfl, hb⟩; refine ⟨_, rfl, ?_⟩; have n0_ := Aside0.mk (below_step (zz7) hb); clear HB; have HB := n0_; clear n0_; (clear hb)) | ((with_reducible refine gate_callee (f := 92) rfl ?_); refine goesL_ (some 18) rfl rfl Tryz.func92 (by kernel_rfl) rfl #[.int .i64 t168] rfl (zz3) ?_; (with_reducible refine (R1_Allowed.calls t168 t170 _ A4.out).mono ?_); rintro e w' ⟨rfl, ⟨nd, rfl⟩⟩; refine ⟨_, rfl, ?_⟩) | ((with_reducible refine gate_callee (f := 92) rfl ?_); refine goesL_ (some 18) rfl rfl Tryz.func92 (by kernel_rfl) rfl #[.int .i64 t168] rfl (zz3) ?_; (with_reducible refine (R1_Allowed.calls t168 false _ A4.out).mono ?_); rintro e w' ⟨rfl, ⟨nd, rfl⟩⟩; refine ⟨_, rfl, ?_⟩))
      go_ret
      exact ⟨by rfl, zz6⟩)
   | (have H' := Aside0.mk H
      clear H
      go_wp2_with (first | ((with_reducible refine gate_callee (f := 91) rfl ?_); refine goesL_ (some 14) rfl rfl Tryz.func91 (by kernel_rfl) rfl #[.string a0, .int .i64 x3_1] rfl (zz3) ?_; (with_reducible refine (R1_Rune.calls k1 a0 x3_1 t168 t169 _ A3.out).mono ?_); rintro e wz1 ⟨rfl, hb⟩; refine ⟨_, rfl, ?_⟩; have n0_ := Aside0.mk (below_step (zz7) hb); clear HB; have HB := n0_; clear n0_; (clear hb)) | ((with_reducible refine gate_callee (f := 92) rfl ?_); refine goesL_ (some 18) rfl rfl Tryz.func92 (by kernel_rfl) rfl #[.int .i64 t168] rfl (zz3) ?_; (with_reducible refine (R1_Allowed.calls t168 true _ A4.out).mono ?_); rintro e w' ⟨rfl, ⟨nd, rfl⟩⟩; refine ⟨_, rfl, ?_⟩))
      go_roundg k1
      case measure => have := HK1.out; omega
      case rel => exact ⟨(wrap64 (x3_1 + t169)), (by rfl), H', ⟨zz36⟩, ⟨zz6⟩⟩)
mutual
def R1_NameEnd.l0 : Nat → ByteArray → Int → Int → Option (Int)
 | 0, _, _, _ => none
 | k + 1, x0, x1, x5 => if x5 ≥ 0 then (R1_NameEnd.j1 k x0 x1 x5 (decide (x5 < (x0.size : Int)))) else (R1_NameEnd.j1 k x0 x1 x5 false)
def R1_NameEnd.j1 : Nat → ByteArray → Int → Int → Bool → Option (Int)
 | 0, _, _, _, _ => none
 | k + 1, x0, x1, x5, x17 => if x17 = true then (if 0 ≤ x5 then (if x5 < (x0.size : Int) then (if (bt x0 x5) ≥ 97 then (if (bt x0 x5) ≤ 122 then (if (bt x0 x5) ≥ 48 then (if (bt x0 x5) ≤ 57 then (R1_NameEnd.l0 k x0 x1 (wrap64 (x5 + 1))) else (if (bt x0 x5) = 45 then (R1_NameEnd.l0 k x0 x1 (wrap64 (x5 + 1))) else (R1_NameEnd.l0 k x0 x1 (wrap64 (x5 + 1))))) else (if (bt x0 x5) = 45 then (R1_NameEnd.l0 k x0 x1 (wrap64 (x5 + 1))) else (R1_NameEnd.l0 k x0 x1 (wrap64 (x5 + 1))))) else (if (bt x0 x5) ≥ 65 then (if (bt x0 x5) ≤ 90 then (if (bt x0 x5) ≥ 48 then (if (bt x0 x5) ≤ 57 then (R1_NameEnd.l0 k x0 x1 (wrap64 (x5 + 1))) else (if (bt x0 x5) = 45 then (R1_NameEnd.l0 k x0 x1 (wrap64 (x5 + 1))) else (R1_NameEnd.l0 k x0 x1 (wrap64 (x5 + 1))))) else (if (bt x0 x5) = 45 then (R1_NameEnd.l0 k x0 x1 (wrap64 (x5 + 1))) else (R1_NameEnd.l0 k x0 x1 (wrap64 (x5 + 1))))) else (if (bt x0 x5) ≥ 48 then (if (bt x0 x5) ≤ 57 then (if ((bt x0 x5) = 95) then (R1_NameEnd.l0 k x0 x1 (wrap64 (x5 + 1))) else (if x5 = x1 then (some x5) else (R1_NameEnd.l0 k x0 x1 (wrap64 (x5 + 1))))) else (if (bt x0 x5) = 45 then (if ((bt x0 x5) = 95) then (R1_NameEnd.l0 k x0 x1 (wrap64 (x5 + 1))) else (if x5 = x1 then (some x5) else (R1_NameEnd.l0 k x0 x1 (wrap64 (x5 + 1))))) else (if ((bt x0 x5) = 95) then (R1_NameEnd.l0 k x0 x1 (wrap64 (x5 + 1))) else (if ((bt x0 x5) = 46) then (if x5 = x1 then (some x5) else (R1_NameEnd.l0 k x0 x1 (wrap64 (x5 + 1)))) else (some x5))))) else (if (bt x0 x5) = 45 then (if ((bt x0 x5) = 95) then (R1_NameEnd.l0 k x0 x1 (wrap64 (x5 + 1))) else (if x5 = x1 then (some x5) else (R1_NameEnd.l0 k x0 x1 (wrap64 (x5 + 1))))) else (if ((bt x0 x5) = 95) then (R1_NameEnd.l0 k x0 x1 (wrap64 (x5 + 1))) else (if ((bt x0 x5) = 46) then (if x5 = x1 then (some x5) else (R1_NameEnd.l0 k x0 x1 (wrap64 (x5 + 1)))) else (some x5)))))) else (if (bt x0 x5) ≥ 48 then (if (bt x0 x5) ≤ 57 then (if ((bt x0 x5) = 95) then (R1_NameEnd.l0 k x0 x1 (wrap64 (x5 + 1))) else (if x5 = x1 then (some x5) else (R1_NameEnd.l0 k x0 x1 (wrap64 (x5 + 1))))) else (if (bt x0 x5) = 45 then (if ((bt x0 x5) = 95) then (R1_NameEnd.l0 k x0 x1 (wrap64 (x5 + 1))) else (if x5 = x1 then (some x5) else (R1_NameEnd.l0 k x0 x1 (wrap64 (x5 + 1))))) else (if ((bt x0 x5) = 95) then (R1_NameEnd.l0 k x0 x1 (wrap64 (x5 + 1))) else (if ((bt x0 x5) = 46) then (if x5 = x1 then (some x5) else (R1_NameEnd.l0 k x0 x1 (wrap64 (x5 + 1)))) else (some x5))))) else (if (bt x0 x5) = 45 then (if ((bt x0 x5) = 95) then (R1_NameEnd.l0 k x0 x1 (wrap64 (x5 + 1))) else (if x5 = x1 then (some x5) else (R1_NameEnd.l0 k x0 x1 (wrap64 (x5 + 1))))) else (if ((bt x0 x5) = 95) then (R1_NameEnd.l0 k x0 x1 (wrap64 (x5 + 1))) else (if ((bt x0 x5) = 46) then (if x5 = x1 then (some x5) else (R1_NameEnd.l0 k x0 x1 (wrap64 (x5 + 1)))) else (some x5))))))) else (if (bt x0 x5) ≥ 65 then (if (bt x0 x5) ≤ 90 then (if (bt x0 x5) ≥ 48 then (if (bt x0 x5) ≤ 57 then (R1_NameEnd.l0 k x0 x1 (wrap64 (x5 + 1))) else (if (bt x0 x5) = 45 then (R1_NameEnd.l0 k x0 x1 (wrap64 (x5 + 1))) else (R1_NameEnd.l0 k x0 x1 (wrap64 (x5 + 1))))) else (if (bt x0 x5) = 45 then (R1_NameEnd.l0 k x0 x1 (wrap64 (x5 + 1))) else (R1_NameEnd.l0 k x0 x1 (wrap64 (x5 + 1))))) else (if (bt x0 x5) ≥ 48 then (if (bt x0 x5) ≤ 57 then (if ((bt x0 x5) = 95) then (R1_NameEnd.l0 k x0 x1 (wrap64 (x5 + 1))) else (if x5 = x1 then (some x5) else (R1_NameEnd.l0 k x0 x1 (wrap64 (x5 + 1))))) else (if (bt x0 x5) = 45 then (if ((bt x0 x5) = 95) then (R1_NameEnd.l0 k x0 x1 (wrap64 (x5 + 1))) else (if x5 = x1 then (some x5) else (R1_NameEnd.l0 k x0 x1 (wrap64 (x5 + 1))))) else (if ((bt x0 x5) = 95) then (R1_NameEnd.l0 k x0 x1 (wrap64 (x5 + 1))) else (if ((bt x0 x5) = 46) then (if x5 = x1 then (some x5) else (R1_NameEnd.l0 k x0 x1 (wrap64 (x5 + 1)))) else (some x5))))) else (if (bt x0 x5) = 45 then (if ((bt x0 x5) = 95) then (R1_NameEnd.l0 k x0 x1 (wrap64 (x5 + 1))) else (if x5 = x1 then (some x5) else (R1_NameEnd.l0 k x0 x1 (wrap64 (x5 + 1))))) else (if ((bt x0 x5) = 95) then (R1_NameEnd.l0 k x0 x1 (wrap64 (x5 + 1))) else (if ((bt x0 x5) = 46) then (if x5 = x1 then (some x5) else (R1_NameEnd.l0 k x0 x1 (wrap64 (x5 + 1)))) else (some x5)))))) else (if (bt x0 x5) ≥ 48 then (if (bt x0 x5) ≤ 57 then (if ((bt x0 x5) = 95) then (R1_NameEnd.l0 k x0 x1 (wrap64 (x5 + 1))) else (if x5 = x1 then (some x5) else (R1_NameEnd.l0 k x0 x1 (wrap64 (x5 + 1))))) else (if (bt x0 x5) = 45 then (if ((bt x0 x5) = 95) then (R1_NameEnd.l0 k x0 x1 (wrap64 (x5 + 1))) else (if x5 = x1 then (some x5) else (R1_NameEnd.l0 k x0 x1 (wrap64 (x5 + 1))))) else (if ((bt x0 x5) = 95) then (R1_NameEnd.l0 k x0 x1 (wrap64 (x5 + 1))) else (if ((bt x0 x5) = 46) then (if x5 = x1 then (some x5) else (R1_NameEnd.l0 k x0 x1 (wrap64 (x5 + 1)))) else (some x5))))) else (if (bt x0 x5) = 45 then (if ((bt x0 x5) = 95) then (R1_NameEnd.l0 k x0 x1 (wrap64 (x5 + 1))) else (if x5 = x1 then (some x5) else (R1_NameEnd.l0 k x0 x1 (wrap64 (x5 + 1))))) else (if ((bt x0 x5) = 95) then (R1_NameEnd.l0 k x0 x1 (wrap64 (x5 + 1))) else (if ((bt x0 x5) = 46) then (if x5 = x1 then (some x5) else (R1_NameEnd.l0 k x0 x1 (wrap64 (x5 + 1)))) else (some x5))))))) else (none)) else (none)) else (some x5)
end
def R1_NameEnd.f (k : Nat) (a0 : ByteArray) (a1 : Int) : Option (Int) := R1_NameEnd.l0 k a0 a1 a1
set_option maxHeartbeats 8000000 in
set_option maxRecDepth 100000 in
theorem R1_NameEnd.calls (k : Nat) (a0 : ByteArray) (a1 : Int) (r : Int) (w : World) (h : R1_NameEnd.f k a0 a1 = some r) :
 Calls Tryz.prog 53 #[.string a0, .int .i64 a1] w fun e w' => e = .returned (.int .i64 r) ∧ Drawn0 w w' := by
 have H : (R1_NameEnd.l0 k a0 a1 a1) = some r := h
 clear h
 have H' := Aside0.mk H
 clear H
 go_enter Tryz.func53, Tryz.ntmps53
 go_wp2
 go_loopg [5] k (fun kq v5 w' => ∃ (x5_1 : Int), v5 = .int .i64 x5_1 ∧ Aside0 (R1_NameEnd.l0 kq a0 a1 x5_1 = some r) ∧ Aside0 (kq ≤ k) ∧ Drawn0 w w')
 case atStart => exact ⟨(a1), (by rfl), H', ⟨Nat.le_refl _⟩, by repeat (exact Drawn0.refl _)⟩
 case round =>
  clear H'
  obtain ⟨x5_1, rfl, HA, HK1, ⟨m1, rfl⟩⟩ := hrel
  cases gk with
  | zero => exact absurd HA.out (by simp [R1_NameEnd.l0])
  | succ k1 =>
   have H := HA.out
   clear HA
   simp only [R1_NameEnd.l0] at H
   have HC3 := Aside0.mk H
   clear H
   go_upto_region 2 with (fail)
   go_cut [17] (fun v17 wc => ∃ (kq : Nat) (x17_2 : Bool), v17 = .bool x17_2 ∧ Aside0 (R1_NameEnd.j1 kq a0 a1 x5_1 x17_2 = some r) ∧ Aside0 (kq ≤ k1) ∧ Drawn0 w wc)
   case first =>
    have H := HC3.out
    clear HC3
    revert H; refine X.ite_d (c := 0 ≤ x5_1) (fun c4b0 H => ?_) (fun c4b0 H => ?_)
    rotate_left
    rotate_left
    all_goals
     have H' := Aside0.mk H
     clear H
     go_wp2
     go_meet
     case rel => first | (exact ⟨_, (decide (x5_1 < (a0.size : Int))), (by rfl), H', ⟨by have := HK1.out; first | omega | exact Nat.le_refl _⟩, zz1⟩) | (exact ⟨_, (false), (by rfl), H', ⟨zz36⟩, zz1⟩)
   case rest =>
    clear HC3
    obtain ⟨kq, x17_2, rfl, HA, HJ2, ⟨mc2, rfl⟩⟩ := hcut
    cases kq with
    | zero => exact absurd HA.out (by simp [R1_NameEnd.j1])
    | succ kj2 =>
     have H := HA.out
     clear HA
     simp only [R1_NameEnd.j1] at H
     by_cases c5 : x17_2 = true
     subst c5
     rw [if_pos rfl] at H
     by_cases c6 : 0 ≤ x5_1
     rw [if_pos c6] at H
     have c6b0 : decide (0 ≤ x5_1) = true := decide_eq_true c6
     clear c6
     by_cases c7 : x5_1 < (a0.size : Int)
     rw [if_pos c7] at H
     have c7b0 : decide (x5_1 < (a0.size : Int)) = true := decide_eq_true c7
     clear c7
     revert H; refine X.ite_d (c := 97 ≤ (bt a0 x5_1)) (fun c9b0 H => ?_) (fun c9b0 H => ?_)
     revert H; refine X.ite_d (fun c10b0 H => ?_) (fun c10b0 H => ?_)
     revert H; refine X.ite_d (c := 48 ≤ (bt a0 x5_1)) (fun c11b0 H => ?_) (fun c11b0 H => ?_)
     revert H; refine X.ite_d (fun c12b0 H => ?_) (fun c12b0 H => ?_)
     rotate_left
     revert H; refine X.ite_b (fun c13b0 c13b1 H => ?_) (fun c13b0 c13b1 H => ?_)
     rotate_left
     rotate_left
     revert H; refine X.ite_b (fun c14b0 c14b1 H => ?_) (fun c14b0 c14b1 H => ?_)
     rotate_left
     rotate_left
     revert H; refine X.ite_d (c := 65 ≤ (bt a0 x5_1)) (fun c15b0 H => ?_) (fun c15b0 H => ?_)
     revert H; refine X.ite_d (fun c16b0 H => ?_) (fun c16b0 H => ?_)
     revert H; refine X.ite_d (c := 48 ≤ (bt a0 x5_1)) (fun c17b0 H => ?_) (fun c17b0 H => ?_)
     revert H; refine X.ite_d (fun c18b0 H => ?_) (fun c18b0 H => ?_)
     rotate_left
     revert H; refine X.ite_b (fun c19b0 c19b1 H => ?_) (fun c19b0 c19b1 H => ?_)
     rotate_left
     rotate_left
     revert H; refine X.ite_b (fun c20b0 c20b1 H => ?_) (fun c20b0 c20b1 H => ?_)
     rotate_left
     rotate_left
     revert H; refine X.ite_d (c := 48 ≤ (bt a0 x5_1)) (fun c21b0 H => ?_) (fun c21b0 H => ?_)
     revert H; refine X.ite_d (fun c22b0 H => ?_) (fun c22b0 H => ?_)
     revert H; refine X.ite_b (fun c23b0 c23b1 H => ?_) (fun c23b0 c23b1 H => ?_)
     rotate_left
     revert H; refine X.ite_b (fun c24b0 c24b1 H => ?_) (fun c24b0 c24b1 H => ?_)
     rotate_left
     rotate_left
     revert H; refine X.ite_b (fun c25b0 c25b1 H => ?_) (fun c25b0 c25b1 H => ?_)
     revert H; refine X.ite_b (fun c26b0 c26b1 H => ?_) (fun c26b0 c26b1 H => ?_)
     rotate_left
     revert H; refine X.ite_b (fun c27b0 c27b1 H => ?_) (fun c27b0 c27b1 H => ?_)
     rotate_left
     rotate_left
     revert H; refine X.ite_b (fun c28b0 c28b1 H => ?_) (fun c28b0 c28b1 H => ?_)
     rotate_left
     revert H; refine X.ite_b (fun c29b0 c29b1 H => ?_) (fun c29b0 c29b1 H => ?_)
     revert H; refine X.ite_b (fun c30b0 c30b1 H => ?_) (fun c30b0 c30b1 H => ?_)
     rotate_left
     rotate_left
     rotate_left
     revert H; refine X.ite_b (fun c31b0 c31b1 H => ?_) (fun c31b0 c31b1 H => ?_)
     revert H; refine X.ite_b (fun c32b0 c32b1 H => ?_) (fun c32b0 c32b1 H => ?_)
     rotate_left
     revert H; refine X.ite_b (fun c33b0 c33b1 H => ?_) (fun c33b0 c33b1 H => ?_)
     rotate_left
     rotate_left
     revert H; refine X.ite_b (fun c34b0 c34b1 H => ?_) (fun c34b0 c34b1 H => ?_)
     rotate_left
     revert H; refine X.ite_b (fun c35b0 c35b1 H => ?_) (fun c35b0 c35b1 H => ?_)
     revert H; refine X.ite_b (fun c36b0 c36b1 H => ?_) (fun c36b0 c36b1 H => ?_)
     rotate_left
     rotate_left
     rotate_left
     revert H; refine X.ite_d (c := 48 ≤ (bt a0 x5_1)) (fun c37b0 H => ?_) (fun c37b0 H => ?_)
     revert H; refine X.ite_d (fun c38b0 H => ?_) (fun c38b0 H => ?_)
     revert H; refine X.ite_b (fun c39b0 c39b1 H => ?_) (fun c39b0 c39b1 H => ?_)
     rotate_left
     revert H; refine X.ite_b (fun c40b0 c40b1 H => ?_) (fun c40b0 c40b1 H => ?_)
     rotate_left
     rotate_left
     revert H; refine X.ite_b (fun c41b0 c41b1 H => ?_) (fun c41b0 c41b1 H => ?_)
     revert H; refine X.ite_b (fun c42b0 c42b1 H => ?_) (fun c42b0 c42b1 H => ?_)
     rotate_left
     revert H; refine X.ite_b (fun c43b0 c43b1 H => ?_) (fun c43b0 c43b1 H => ?_)
     rotate_left
     rotate_left
     revert H; refine X.ite_b (fun c44b0 c44b1 H => ?_) (fun c44b0 c44b1 H => ?_)
     rotate_left
     revert H; refine X.ite_b (fun c45b0 c45b1 H => ?_) (fun c45b0 c45b1 H => ?_)
     revert H; refine X.ite_b (fun c46b0 c46b1 H => ?_) (fun c46b0 c46b1 H => ?_)
     rotate_left
     rotate_left
     rotate_left
     revert H; refine X.ite_b (fun c47b0 c47b1 H => ?_) (fun c47b0 c47b1 H => ?_)
     revert H; refine X.ite_b (fun c48b0 c48b1 H => ?_) (fun c48b0 c48b1 H => ?_)
     rotate_left
     revert H; refine X.ite_b (fun c49b0 c49b1 H => ?_) (fun c49b0 c49b1 H => ?_)
     rotate_left
     rotate_left
     revert H; refine X.ite_b (fun c50b0 c50b1 H => ?_) (fun c50b0 c50b1 H => ?_)
     rotate_left
     revert H; refine X.ite_b (fun c51b0 c51b1 H => ?_) (fun c51b0 c51b1 H => ?_)
     revert H; refine X.ite_b (fun c52b0 c52b1 H => ?_) (fun c52b0 c52b1 H => ?_)
     rotate_left
     rotate_left
     rotate_left
     revert H; refine X.ite_d (c := 65 ≤ (bt a0 x5_1)) (fun c53b0 H => ?_) (fun c53b0 H => ?_)
     revert H; refine X.ite_d (fun c54b0 H => ?_) (fun c54b0 H => ?_)
     revert H; refine X.ite_d (c := 48 ≤ (bt a0 x5_1)) (fun c55b0 H => ?_) (fun c55b0 H => ?_)
     revert H; refine X.ite_d (fun c56b0 H => ?_) (fun c56b0 H => ?_)
     rotate_left
     revert H; refine X.ite_b (fun c57b0 c57b1 H => ?_) (fun c57b0 c57b1 H => ?_)
     rotate_left
     rotate_left
     revert H; refine X.ite_b (fun c58b0 c58b1 H => ?_) (fun c58b0 c58b1 H => ?_)
     rotate_left
     rotate_left
     revert H; refine X.ite_d (c := 48 ≤ (bt a0 x5_1)) (fun c59b0 H => ?_) (fun c59b0 H => ?_)
     revert H; refine X.ite_d (fun c60b0 H => ?_) (fun c60b0 H => ?_)
     revert H; refine X.ite_b (fun c61b0 c61b1 H => ?_) (fun c61b0 c61b1 H => ?_)
     rotate_left
     revert H; refine X.ite_b (fun c62b0 c62b1 H => ?_) (fun c62b0 c62b1 H => ?_)
     rotate_left
     rotate_left
     revert H; refine X.ite_b (fun c63b0 c63b1 H => ?_) (fun c63b0 c63b1 H => ?_)
     revert H; refine X.ite_b (fun c64b0 c64b1 H => ?_) (fun c64b0 c64b1 H => ?_)
     rotate_left
     revert H; refine X.ite_b (fun c65b0 c65b1 H => ?_) (fun c65b0 c65b1 H => ?_)
     rotate_left
     rotate_left
     revert H; refine X.ite_b (fun c66b0 c66b1 H => ?_) (fun c66b0 c66b1 H => ?_)
     rotate_left
     revert H; refine X.ite_b (fun c67b0 c67b1 H => ?_) (fun c67b0 c67b1 H => ?_)
     revert H; refine X.ite_b (fun c68b0 c68b1 H => ?_) (fun c68b0 c68b1 H => ?_)
     rotate_left
     rotate_left
     rotate_left
     revert H; refine X.ite_b (fun c69b0 c69b1 H => ?_) (fun c69b0 c69b1 H => ?_)
     revert H; refine X.ite_b (fun c70b0 c70b1 H => ?_) (fun c70b0 c70b1 H => ?_)
     rotate_left
     revert H; refine X.ite_b (fun c71b0 c71b1 H => ?_) (fun c71b0 c71b1 H => ?_)
     rotate_left
     rotate_left
     revert H; refine X.ite_b (fun c72b0 c72b1 H => ?_) (fun c72b0 c72b1 H => ?_)
     rotate_left
     revert H; refine X.ite_b (fun c73b0 c73b1 H => ?_) (fun c73b0 c73b1 H => ?_)
     revert H; refine X.ite_b (fun c74b0 c74b1 H => ?_) (fun c74b0 c74b1 H => ?_)
     rotate_left
     rotate_left
     rotate_left
     revert H; refine X.ite_d (c := 48 ≤ (bt a0 x5_1)) (fun c75b0 H => ?_) (fun c75b0 H => ?_)
     revert H; refine X.ite_d (fun c76b0 H => ?_) (fun c76b0 H => ?_)
     revert H; refine X.ite_b (fun c77b0 c77b1 H => ?_) (fun c77b0 c77b1 H => ?_)
     rotate_left
     revert H; refine X.ite_b (fun c78b0 c78b1 H => ?_) (fun c78b0 c78b1 H => ?_)
     rotate_left
     rotate_left
     revert H; refine X.ite_b (fun c79b0 c79b1 H => ?_) (fun c79b0 c79b1 H => ?_)
     revert H; refine X.ite_b (fun c80b0 c80b1 H => ?_) (fun c80b0 c80b1 H => ?_)
     rotate_left
     revert H; refine X.ite_b (fun c81b0 c81b1 H => ?_) (fun c81b0 c81b1 H => ?_)
     rotate_left
     rotate_left
     revert H; refine X.ite_b (fun c82b0 c82b1 H => ?_) (fun c82b0 c82b1 H => ?_)
     rotate_left
     revert H; refine X.ite_b (fun c83b0 c83b1 H => ?_) (fun c83b0 c83b1 H => ?_)
     revert H; refine X.ite_b (fun c84b0 c84b1 H => ?_) (fun c84b0 c84b1 H => ?_)
     rotate_left
     rotate_left
     rotate_left
     revert H; refine X.ite_b (fun c85b0 c85b1 H => ?_) (fun c85b0 c85b1 H => ?_)
     revert H; refine X.ite_b (fun c86b0 c86b1 H => ?_) (fun c86b0 c86b1 H => ?_)
     rotate_left
     revert H; refine X.ite_b (fun c87b0 c87b1 H => ?_) (fun c87b0 c87b1 H => ?_)
     rotate_left
     rotate_left
     revert H; refine X.ite_b (fun c88b0 c88b1 H => ?_) (fun c88b0 c88b1 H => ?_)
     rotate_left
     revert H; refine X.ite_b (fun c89b0 c89b1 H => ?_) (fun c89b0 c89b1 H => ?_)
     revert H; refine X.ite_b (fun c90b0 c90b1 H => ?_) (fun c90b0 c90b1 H => ?_)
     rotate_left
     rotate_left
     rotate_left
     ·rw [if_neg c7] at H
      exact absurd H (by simp)
     ·rw [if_neg c6] at H
      exact absurd H (by simp)
     ·replace c5 := Bool.eq_false_iff.mpr c5
      subst c5
      rw [if_neg (show ¬ (false = true) by decide)] at H
      obtain rfl := Option.some.inj H
      go_wp2
      go_ret
      exact ⟨by rfl, zz1⟩
     all_goals first
     | (have H' := Aside0.mk H
        clear H
        have pz1 : 0 ≤ (x5_1 : Int) := of_decide_eq_true (zz13)
        have qz1 : x5_1 < (a0.size : Int) := of_decide_eq_true (zz13)
        have hxz1 := bt_at a0 x5_1
        replace pz1 := eq_true pz1
        replace qz1 := eq_true qz1
        go_wp2
        go_roundg kj2
        case measure => have := HK1.out; have := HJ2.out; omega
        case rel => exact ⟨(wrap64 (x5_1 + 1)), (by rfl), H', ⟨by have := HK1.out; have := HJ2.out; omega⟩, zz1⟩)
     | (obtain rfl := Option.some.inj H
        have pz1 : 0 ≤ (x5_1 : Int) := of_decide_eq_true (zz13)
        have qz1 : x5_1 < (a0.size : Int) := of_decide_eq_true (zz13)
        have hxz1 := bt_at a0 x5_1
        replace pz1 := eq_true pz1
        replace qz1 := eq_true qz1
        go_wp2
        go_ret
        exact ⟨by rfl, zz1⟩)
def R1_Space.f (a0 : Int) : Option (Bool) := if a0 = 32 then (some true) else (if a0 = 9 then (some true) else (if a0 = 10 then (some true) else (some (a0 == 13))))
set_option maxHeartbeats 8000000 in
set_option maxRecDepth 100000 in
theorem R1_Space.calls (a0 : Int) (r : Bool) (w : World) (h : R1_Space.f a0 = some r) :
 Calls Tryz.prog 97 #[.int .u8 a0] w fun e w' => e = .returned (.bool r) ∧ Drawn0 w w' := by
 have H : (if a0 = 32 then (some true) else (if a0 = 9 then (some true) else (if a0 = 10 then (some true) else (some (a0 == 13))))) = some r := h
 clear h
 revert H; refine X.ite_b (fun c2b0 c2b1 H => ?_) (fun c2b0 c2b1 H => ?_)
 rotate_left
 revert H; refine X.ite_b (fun c3b0 c3b1 H => ?_) (fun c3b0 c3b1 H => ?_)
 rotate_left
 revert H; refine X.ite_b (fun c4b0 c4b1 H => ?_) (fun c4b0 c4b1 H => ?_)
 rotate_left
 ·obtain rfl := Option.some.inj H
  go_enter Tryz.func97, Tryz.ntmps97
  go_wp2
  go_ret
  exact zz17
 all_goals
  obtain rfl := Option.some.inj H
  go_enter Tryz.func97, Tryz.ntmps97
  go_wp2
  go_ret
  exact zz17
end Go.Proofs.YtlhhhlimjajnlaaGreat.Q
end
section
namespace Go.Proofs.YtlhhhlimjajnlaaGreat.X
end Go.Proofs.YtlhhhlimjajnlaaGreat.X
namespace Go.Proofs.YtlhhhlimjajnlaaGreat.Q
open Go.RowKit Go.Proofs.YtlhhhlimjajnlaaGreatW.PrintWords Go.Proofs.YtlhhhlimjajnlaaGreatW.PrintLast Go.Proofs.YtlhhhlimjajnlaaGreatW.PrintMore
attribute [local go_sem] max2_int min2_int max_two min_two max_three min_three max_four min_four   
open Go.Proofs.YtlhhhlimjajnlaaGreat.X
set_option linter.unusedVariables false
set_option linter.unusedSimpArgs false
mutual
def R1_Skip.l0 : Nat → ByteArray → Int → Option (Int)
 | 0, _, _ => none
 | k + 1, x0, x1 => if x1 ≥ 0 then (R1_Skip.j1 k x0 x1 (decide (x1 < (x0.size : Int)))) else (R1_Skip.j1 k x0 x1 false)
def R1_Skip.j1 : Nat → ByteArray → Int → Bool → Option (Int)
 | 0, _, _, _ => none
 | k + 1, x0, x1, x13 => if x13 = true then (if 0 ≤ x1 then (if x1 < (x0.size : Int) then ((R1_Space.f (bt x0 x1)).bind fun t171 => (if t171 = true then (R1_Skip.l0 k x0 (wrap64 (x1 + 1))) else (some x1))) else (none)) else (none)) else (some x1)
end
def R1_Skip.f (k : Nat) (a0 : ByteArray) (a1 : Int) : Option (Int) := R1_Skip.l0 k a0 a1
set_option maxHeartbeats 8000000 in
set_option maxRecDepth 100000 in
theorem R1_Skip.calls (k : Nat) (a0 : ByteArray) (a1 : Int) (r : Int) (w : World) (h : R1_Skip.f k a0 a1 = some r) :
 Calls Tryz.prog 67 #[.string a0, .int .i64 a1] w fun e w' => e = .returned (.int .i64 r) ∧ Drawn0 w w' := by
 have H : (R1_Skip.l0 k a0 a1) = some r := h
 clear h
 have H' := Aside0.mk H
 clear H
 go_enter Tryz.func67, Tryz.ntmps67
 go_wp2
 go_loopg [1] k (fun kq v1 w' => ∃ (x1_1 : Int), v1 = .int .i64 x1_1 ∧ Aside0 (R1_Skip.l0 kq a0 x1_1 = some r) ∧ Aside0 (kq ≤ k) ∧ Drawn0 w w')
 case atStart => exact ⟨(a1), (zz5), H', ⟨Nat.le_refl _⟩, zz1⟩
 case round =>
  clear H'
  try clear p2
  obtain ⟨x1_1, rfl, HA, HK1, ⟨m1, rfl⟩⟩ := hrel
  cases gk with
  | zero => exact absurd HA.out (by simp [R1_Skip.l0])
  | succ k1 =>
   have H := HA.out
   clear HA
   simp only [R1_Skip.l0] at H
   have HC3 := Aside0.mk H
   clear H
   go_upto_region 1 with (fail)
   go_cut [13] (fun v13 wc => ∃ (kq : Nat) (x13_2 : Bool), v13 = .bool x13_2 ∧ Aside0 (R1_Skip.j1 kq a0 x1_1 x13_2 = some r) ∧ Aside0 (kq ≤ k1) ∧ Drawn0 w wc)
   case first =>
    have H := HC3.out
    clear HC3
    by_cases c4 : x1_1 ≥ 0
    ·rw [if_pos c4] at H
     have c4b0 : decide (0 ≤ x1_1) = true := decide_eq_true c4
     clear c4
     (first | rw [c4b0] | (simp only [i64_w, i32_w]; rw [c4b0]) | skip)
     have H' := Aside0.mk H
     clear H
     go_wp2
     go_meet
     case rel => exact ⟨_, (decide (x1_1 < (a0.size : Int))), (zz5), H', ⟨by have := HK1.out; first | omega | exact Nat.le_refl _⟩, zz1⟩
    ·rw [if_neg c4] at H
     have c4b0 : decide (0 ≤ x1_1) = false := decide_eq_false c4
     clear c4
     (first | rw [c4b0] | (simp only [i64_w, i32_w]; rw [c4b0]) | skip)
     have H' := Aside0.mk H
     clear H
     go_wp2
     go_meet
     case rel => exact ⟨_, (false), (zz5), H', ⟨by have := HK1.out; first | omega | exact Nat.le_refl _⟩, zz1⟩
   case rest =>
    clear HC3
    try clear p2
    try clear c4
    try clear c4b0
    try clear p2
    obtain ⟨kq, x13_2, rfl, HA, HJ2, ⟨mc2, rfl⟩⟩ := hcut
    cases kq with
    | zero => exact absurd HA.out (by simp [R1_Skip.j1])
    | succ kj2 =>
     have H := HA.out
     clear HA
     simp only [R1_Skip.j1] at H
     by_cases c5 : x13_2 = true
     ·subst c5
      have H1 : (if 0 ≤ x1_1 then (if x1_1 < (a0.size : Int) then ((R1_Space.f (bt a0 x1_1)).bind fun t171 => (if t171 = true then (R1_Skip.l0 kj2 a0 (wrap64 (x1_1 + 1))) else (some x1_1))) else (none)) else (none)) = some r := by rw [if_pos rfl] at H; exact H
      clear H
      have H := H1
      clear H1
      by_cases c6 : 0 ≤ x1_1
      ·rw [if_pos c6] at H
       have c6b0 : decide (0 ≤ x1_1) = true := decide_eq_true c6
       clear c6
       by_cases c7 : x1_1 < (a0.size : Int)
       ·rw [if_pos c7] at H
        have c7b0 : decide (x1_1 < (a0.size : Int)) = true := decide_eq_true c7
        clear c7
        replace H := Option.bind_eq_some_iff.mp H
        obtain ⟨t171, A90, H⟩ := H
        replace H : (if t171 = true then (R1_Skip.l0 kj2 a0 (wrap64 (x1_1 + 1))) else (some x1_1)) = some r := H
        have A9 := Aside0.mk A90
        clear A90
        by_cases c10 : t171 = true
        ·subst c10
         have H1 : (R1_Skip.l0 kj2 a0 (wrap64 (x1_1 + 1))) = some r := by rw [if_pos rfl] at H; exact H
         clear H
         have H := H1
         clear H1
         have H' := Aside0.mk H
         clear H
         have p8 : 0 ≤ (x1_1 : Int) := of_decide_eq_true (zz10)
         have q8 : x1_1 < (a0.size : Int) := of_decide_eq_true (zz10)
         have hx8 := bt_at a0 x1_1
         replace p8 := eq_true p8
         replace q8 := eq_true q8
         go_wp2_with (first | ((with_reducible refine gate_callee (f := 97) rfl ?_); refine goesL_ (some 17) rfl rfl Tryz.func97 (by kernel_rfl) rfl #[.int .u8 (bt a0 x1_1)] rfl (zz4) ?_; (with_reducible refine (R1_Space.calls (bt a0 x1_1) true _ A9.out).mono ?_); rintro e w' ⟨rfl, ⟨nd, rfl⟩⟩; refine ⟨_, rfl, ?_⟩))
         go_roundg kj2
         case measure => have := HK1.out; have := HJ2.out; omega
         case rel => exact ⟨(wrap64 (x1_1 + 1)), (zz5), H', ⟨by have := HK1.out; have := HJ2.out; omega⟩, zz1⟩
        ·replace c10 := Bool.eq_false_iff.mpr c10
         subst c10
         have H1 : (some x1_1) = some r := by rw [if_neg (show ¬ (false = true) by decide)] at H; exact H
         clear H
         have H := H1
         clear H1
         obtain rfl := Option.some.inj H
         have p8 : 0 ≤ (x1_1 : Int) := of_decide_eq_true (zz10)
         have q8 : x1_1 < (a0.size : Int) := of_decide_eq_true (zz10)
         have hx8 := bt_at a0 x1_1
         replace p8 := eq_true p8
         replace q8 := eq_true q8
         go_wp2_with (first | ((with_reducible refine gate_callee (f := 97) rfl ?_); refine goesL_ (some 17) rfl rfl Tryz.func97 (by kernel_rfl) rfl #[.int .u8 (bt a0 x1_1)] rfl (zz4) ?_; (with_reducible refine (R1_Space.calls (bt a0 x1_1) false _ A9.out).mono ?_); rintro e w' ⟨rfl, ⟨nd, rfl⟩⟩; refine ⟨_, rfl, ?_⟩))
         go_ret
         exact ⟨zz5, zz1⟩
       ·rw [if_neg c7] at H
        exact absurd H (by simp)
      ·rw [if_neg c6] at H
       exact absurd H (by simp)
     ·replace c5 := Bool.eq_false_iff.mpr c5
      subst c5
      have H1 : (some x1_1) = some r := by rw [if_neg (show ¬ (false = true) by decide)] at H; exact H
      clear H
      have H := H1
      clear H1
      obtain rfl := Option.some.inj H
      go_wp2
      go_ret
      exact ⟨zz5, zz1⟩
end Go.Proofs.YtlhhhlimjajnlaaGreat.Q
end
section
namespace Go.Proofs.YtlhhhlimjajnlaaGreat.X
end Go.Proofs.YtlhhhlimjajnlaaGreat.X
namespace Go.Proofs.YtlhhhlimjajnlaaGreat.Q
open Go.RowKit Go.Proofs.YtlhhhlimjajnlaaGreatW.PrintWords Go.Proofs.YtlhhhlimjajnlaaGreatW.PrintLast Go.Proofs.YtlhhhlimjajnlaaGreatW.PrintMore
attribute [local go_sem] max2_int min2_int max_two min_two max_three min_three max_four min_four   
open Go.Proofs.YtlhhhlimjajnlaaGreat.X
set_option linter.unusedVariables false
set_option linter.unusedSimpArgs false
def R4_around.l0 : Nat → Int → Int → List ByteArray → List (S41) → Option (Bool)
 | 0, _, _, _, _ => none
 | k + 1, x1, x2, x405000, x405001 => if x2 ≥ 0 then (if x2 = x1 then (some true) else (if 0 ≤ x2 then (if x2 < (x405001.length : Int) then (R4_around.l0 k x1 ((rd_T41 x405001 x2).f2) x405000 x405001) else (none)) else (none))) else (some false)
def R4_around.f (k : Nat) (l0_0 : List ByteArray) (l0_1 : List (S41)) (a1 : Int) (a2 : Int) : Option (Bool) := R4_around.l0 k a1 a2 l0_0 l0_1
set_option maxHeartbeats 8000000 in
set_option maxRecDepth 100000 in
theorem R4_around.calls (k : Nat) (A0_0 : Option Addr) (c0_0 : Nat) (l0_0 : List ByteArray) (A0_1 : Option Addr) (c0_1 : Nat) (l0_1 : List (S41)) (a1 : Int) (a2 : Int) (r : Bool) (w : World) (hr0_0 : Kd.C Kd.string w A0_0 l0_0.length l0_0) (hc0_0 : l0_0.length ≤ c0_0) (hr0_1 : Kd.C k41 w A0_1 l0_1.length l0_1) (hc0_1 : l0_1.length ≤ c0_1) (h : R4_around.f k l0_0 l0_1 a1 a2 = some r) :
 Calls Tryz.prog 50 #[.agg #[.slice A0_0 l0_0.length c0_0, .slice A0_1 l0_1.length c0_1], .int .i64 a1, .int .i64 a2] w fun e w' => e = .returned (.bool r) ∧ Below w.heap.size w w' := by
 have hu27 := Tryz.underlying27
 have HR0_0 := Aside0.mk hr0_0
 have HC0_0 := Aside0.mk hc0_0
 clear hr0_0 hc0_0
 have HR0_1 := Aside0.mk hr0_1
 have HC0_1 := Aside0.mk hc0_1
 clear hr0_1 hc0_1
 have HB := Aside0.mk (Below.refl w.heap.size w)
 have H : (R4_around.l0 k a1 a2 l0_0 l0_1) = some r := h
 clear h
 have H' := Aside0.mk H
 clear H
 go_enter Tryz.func50, Tryz.ntmps50
 go_wp2_with (first | ((with_reducible refine gate_dst (N := 3) rfl ?_); refine box_event ?hg (N := 3) ?hd (cs := #[.slice A0_0 l0_0.length c0_0, .slice A0_1 l0_1.length c0_1]) (t := 27) ?hr ?_; (case hd => rfl); (case hg => rfl); (case hr => first | (go_simp; done) | (go_simp; rfl)); intro gb404 hg w4 hbox hb; have n0_ := Aside0.mk (below_step (zz0) hb); have n1_ := Aside0.mk (hbox); have n2_ := Aside0.mk ((zz24 : w.heap.size ≤ gb404)); have n3_ := Aside0.mk ((zz24 : w.heap.size ≤ gb404)); clear HB; have HB := n0_; have BK404 := n1_; have GW404 := n2_; have GE404 := n3_; clear n0_ n1_ n2_ n3_; clear hb hbox hg))
 go_loopg [2] k (fun kq v2 w' => ∃ (x2_1 : Int), v2 = .int .i64 x2_1 ∧ Aside0 (R4_around.l0 kq a1 x2_1 l0_0 l0_1 = some r) ∧ Aside0 (kq ≤ k) ∧ Aside0 (w'.heap[gb404]? = some (.cells #[(.slice A0_0 l0_0.length c0_0), (.slice A0_1 l0_1.length c0_1)] 27 (0, 0))) ∧ Aside0 (Below w.heap.size w w'))
 case atStart => exact ⟨(a2), (zz5), H', ⟨Nat.le_refl _⟩, ⟨by (with_reducible repeat (first | refine blk_drewN ?_ _ | refine blk_drew ?_ | refine blk_alloc ?_ _)); exact BK404.out⟩, ⟨zz19⟩⟩
 case round =>
  clear H'
  try clear p2
  obtain ⟨x2_1, rfl, HA, HK1, BK404, HB⟩ := hrel
  cases gk with
  | zero => exact absurd HA.out (by simp [R4_around.l0])
  | succ k1 =>
   have H := HA.out
   clear HA
   simp only [R4_around.l0] at H
   by_cases c5 : x2_1 ≥ 0
   ·rw [if_pos c5] at H
    have c5b0 : decide (0 ≤ x2_1) = true := decide_eq_true c5
    clear c5
    by_cases c6 : x2_1 = a1
    ·rw [if_pos c6] at H
     have c6b0 : (x2_1 == a1) = true := beq_iff_eq.mpr c6
     have c6b1 : (x2_1 != a1) = false := bne_eq_false_iff_eq.mpr c6
     clear c6
     obtain rfl := Option.some.inj H
     go_wp2
     go_ret
     exact ⟨zz8, zz19⟩
    ·rw [if_neg c6] at H
     have c6b0 : (x2_1 == a1) = false := beq_eq_false_iff_ne.mpr c6
     have c6b1 : (x2_1 != a1) = true := bne_iff_ne.mpr c6
     by_cases c7 : 0 ≤ x2_1
     ·rw [if_pos c7] at H
      have c7b0 : decide (0 ≤ x2_1) = true := decide_eq_true c7
      clear c7
      by_cases c8 : x2_1 < (l0_1.length : Int)
      ·rw [if_pos c8] at H
       have c8b0 : decide (x2_1 < (l0_1.length : Int)) = true := decide_eq_true c8
       clear c8
       have H' := Aside0.mk H
       clear H
       have hcz9_0 : wr.cell? ⟨gb404, 0, none⟩ = some (.slice A0_0 l0_0.length c0_0) := (blk_cell BK404.out 0).trans rfl
       have hcz9_1 : wr.cell? ⟨gb404, 1, none⟩ = some (.slice A0_1 l0_1.length c0_1) := (blk_cell BK404.out 1).trans rfl
       have hfz9_0 := blk_frozen BK404.out 0
       have hfz9_1 := blk_frozen BK404.out 1
       have p405 : 0 ≤ (x2_1 : Int) := of_decide_eq_true (zz10)
       have q405 : x2_1 < (l0_1.length : Int) := of_decide_eq_true (zz10)
       obtain ⟨ad405, e405, hx405_0, hx405_1, hx405_2, hx405_3⟩ := at_T41 HR0_1.out x2_1 p405 q405
       cases e405
       replace hx405_0 := (HB.out.cell (World.block_lt_of_cell? w _ hx405_0)).trans hx405_0
       replace hx405_1 := (HB.out.cell (World.block_lt_of_cell? w _ hx405_1)).trans hx405_1
       replace hx405_2 := (HB.out.cell (World.block_lt_of_cell? w _ hx405_2)).trans hx405_2
       replace hx405_3 := (HB.out.cell (World.block_lt_of_cell? w _ hx405_3)).trans hx405_3
       replace p405 := eq_true p405
       replace q405 := eq_true q405
       go_wp2
       go_roundg k1
       case measure => have := HK1.out; omega
       case rel => exact ⟨((rd_T41 l0_1 x2_1).f2), (zz5), H', ⟨zz36⟩, ⟨by (with_reducible repeat (first | refine blk_drewN ?_ _ | refine blk_drew ?_ | refine blk_alloc ?_ _)); exact BK404.out⟩, ⟨zz19⟩⟩
      ·rw [if_neg c8] at H
       exact absurd H (by simp)
     ·rw [if_neg c7] at H
      exact absurd H (by simp)
   ·rw [if_neg c5] at H
    have c5b0 : decide (0 ≤ x2_1) = false := decide_eq_false c5
    clear c5
    obtain rfl := Option.some.inj H
    go_wp2
    go_ret
    exact ⟨zz8, zz19⟩
def R4_before.l0 : Nat → Int → Int → List ByteArray → List (S41) → Option (Int)
 | 0, _, _, _, _ => none
 | k + 1, x1, x5, x407000, x407001 => if 0 ≤ x1 then (if x1 < (x407001.length : Int) then (if x5 > ((rd_T41 x407001 x1).f2) then (if 0 ≤ x5 then (if x5 < (x407001.length : Int) then (if ((rd_T41 x407001 x5).f2) = ((rd_T41 x407001 x1).f2) then (some x5) else (R4_before.l0 k x1 (wrap64 (x5 - 1)) x407000 x407001)) else (none)) else (none)) else (some (-1))) else (none)) else (none)
def R4_before.f (k : Nat) (l0_0 : List ByteArray) (l0_1 : List (S41)) (a1 : Int) : Option (Int) := R4_before.l0 k a1 (wrap64 (a1 - 1)) l0_0 l0_1
set_option maxHeartbeats 8000000 in
set_option maxRecDepth 100000 in
theorem R4_before.calls (k : Nat) (A0_0 : Option Addr) (c0_0 : Nat) (l0_0 : List ByteArray) (A0_1 : Option Addr) (c0_1 : Nat) (l0_1 : List (S41)) (a1 : Int) (r : Int) (w : World) (hr0_0 : Kd.C Kd.string w A0_0 l0_0.length l0_0) (hc0_0 : l0_0.length ≤ c0_0) (hr0_1 : Kd.C k41 w A0_1 l0_1.length l0_1) (hc0_1 : l0_1.length ≤ c0_1) (h : R4_before.f k l0_0 l0_1 a1 = some r) :
 Calls Tryz.prog 51 #[.agg #[.slice A0_0 l0_0.length c0_0, .slice A0_1 l0_1.length c0_1], .int .i64 a1] w fun e w' => e = .returned (.int .i64 r) ∧ Below w.heap.size w w' := by
 have hu27 := Tryz.underlying27
 have HR0_0 := Aside0.mk hr0_0
 have HC0_0 := Aside0.mk hc0_0
 clear hr0_0 hc0_0
 have HR0_1 := Aside0.mk hr0_1
 have HC0_1 := Aside0.mk hc0_1
 clear hr0_1 hc0_1
 have HB := Aside0.mk (Below.refl w.heap.size w)
 have H : (R4_before.l0 k a1 (wrap64 (a1 - 1)) l0_0 l0_1) = some r := h
 clear h
 have H' := Aside0.mk H
 clear H
 go_enter Tryz.func51, Tryz.ntmps51
 go_wp2_with (first | ((with_reducible refine gate_dst (N := 2) rfl ?_); refine box_event ?hg (N := 2) ?hd (cs := #[.slice A0_0 l0_0.length c0_0, .slice A0_1 l0_1.length c0_1]) (t := 27) ?hr ?_; (case hd => rfl); (case hg => rfl); (case hr => first | (go_simp; done) | (go_simp; rfl)); intro gb406 hg w3 hbox hb; have n0_ := Aside0.mk (below_step (zz0) hb); have n1_ := Aside0.mk (hbox); have n2_ := Aside0.mk ((zz24 : w.heap.size ≤ gb406)); have n3_ := Aside0.mk ((zz24 : w.heap.size ≤ gb406)); clear HB; have HB := n0_; have BK406 := n1_; have GW406 := n2_; have GE406 := n3_; clear n0_ n1_ n2_ n3_; clear hb hbox hg))
 repeat (go_quiet (first | ((with_reducible refine gate_dst (N := 2) rfl ?_); refine box_event ?hg (N := 2) ?hd (cs := #[.slice A0_0 l0_0.length c0_0, .slice A0_1 l0_1.length c0_1]) (t := 27) ?hr ?_; (case hd => rfl); (case hg => rfl); (case hr => first | (go_simp; done) | (go_simp; rfl)); intro gb406 hg w3 hbox hb; have n0_ := Aside0.mk (below_step (zz0) hb); have n1_ := Aside0.mk (hbox); have n2_ := Aside0.mk ((zz24 : w.heap.size ≤ gb406)); have n3_ := Aside0.mk ((zz24 : w.heap.size ≤ gb406)); clear HB; have HB := n0_; have BK406 := n1_; have GW406 := n2_; have GE406 := n3_; clear n0_ n1_ n2_ n3_; clear hb hbox hg)); try go_wp2_with (first | ((with_reducible refine gate_dst (N := 2) rfl ?_); refine box_event ?hg (N := 2) ?hd (cs := #[.slice A0_0 l0_0.length c0_0, .slice A0_1 l0_1.length c0_1]) (t := 27) ?hr ?_; (case hd => rfl); (case hg => rfl); (case hr => first | (go_simp; done) | (go_simp; rfl)); intro gb406 hg w3 hbox hb; have n0_ := Aside0.mk (below_step (zz0) hb); have n1_ := Aside0.mk (hbox); have n2_ := Aside0.mk ((zz24 : w.heap.size ≤ gb406)); have n3_ := Aside0.mk ((zz24 : w.heap.size ≤ gb406)); clear HB; have HB := n0_; have BK406 := n1_; have GW406 := n2_; have GE406 := n3_; clear n0_ n1_ n2_ n3_; clear hb hbox hg)))
 go_loopg [5] k (fun kq v5 w' => ∃ (x5_1 : Int), v5 = .int .i64 x5_1 ∧ Aside0 (R4_before.l0 kq a1 x5_1 l0_0 l0_1 = some r) ∧ Aside0 (kq ≤ k) ∧ Aside0 (w'.heap[gb406]? = some (.cells #[(.slice A0_0 l0_0.length c0_0), (.slice A0_1 l0_1.length c0_1)] 27 (0, 0))) ∧ Aside0 (Below w.heap.size w w'))
 case atStart => exact ⟨(wrap64 (a1 - 1)), (zz5), H', ⟨Nat.le_refl _⟩, ⟨by (with_reducible repeat (first | refine blk_drewN ?_ _ | refine blk_drew ?_ | refine blk_alloc ?_ _)); exact BK406.out⟩, ⟨zz20⟩⟩
 case round =>
  clear H'
  try clear p2
  obtain ⟨x5_1, rfl, HA, HK1, BK406, HB⟩ := hrel
  cases gk with
  | zero => exact absurd HA.out (by simp [R4_before.l0])
  | succ k1 =>
   have H := HA.out
   clear HA
   simp only [R4_before.l0] at H
   by_cases c4 : 0 ≤ a1
   ·rw [if_pos c4] at H
    have c4b0 : decide (0 ≤ a1) = true := decide_eq_true c4
    clear c4
    by_cases c5 : a1 < (l0_1.length : Int)
    ·rw [if_pos c5] at H
     have c5b0 : decide (a1 < (l0_1.length : Int)) = true := decide_eq_true c5
     clear c5
     by_cases c6 : x5_1 > ((rd_T41 l0_1 a1).f2)
     ·rw [if_pos c6] at H
      have c6b0 : decide (((rd_T41 l0_1 a1).f2) < x5_1) = true := decide_eq_true c6
      clear c6
      by_cases c7 : 0 ≤ x5_1
      ·rw [if_pos c7] at H
       have c7b0 : decide (0 ≤ x5_1) = true := decide_eq_true c7
       clear c7
       by_cases c8 : x5_1 < (l0_1.length : Int)
       ·rw [if_pos c8] at H
        have c8b0 : decide (x5_1 < (l0_1.length : Int)) = true := decide_eq_true c8
        clear c8
        by_cases c9 : ((rd_T41 l0_1 x5_1).f2) = ((rd_T41 l0_1 a1).f2)
        ·rw [if_pos c9] at H
         have c9b0 : (((rd_T41 l0_1 x5_1).f2) == ((rd_T41 l0_1 a1).f2)) = true := beq_iff_eq.mpr c9
         have c9b1 : (((rd_T41 l0_1 x5_1).f2) != ((rd_T41 l0_1 a1).f2)) = false := bne_eq_false_iff_eq.mpr c9
         clear c9
         obtain rfl := Option.some.inj H
         have hcz10_0 : wr.cell? ⟨gb406, 0, none⟩ = some (.slice A0_0 l0_0.length c0_0) := (blk_cell BK406.out 0).trans rfl
         have hcz10_1 : wr.cell? ⟨gb406, 1, none⟩ = some (.slice A0_1 l0_1.length c0_1) := (blk_cell BK406.out 1).trans rfl
         have hfz10_0 := blk_frozen BK406.out 0
         have hfz10_1 := blk_frozen BK406.out 1
         have p407 : 0 ≤ (a1 : Int) := of_decide_eq_true (zz10)
         have q407 : a1 < (l0_1.length : Int) := of_decide_eq_true (zz10)
         obtain ⟨ad407, e407, hx407_0, hx407_1, hx407_2, hx407_3⟩ := at_T41 HR0_1.out a1 p407 q407
         cases e407
         replace hx407_0 := (HB.out.cell (World.block_lt_of_cell? w _ hx407_0)).trans hx407_0
         replace hx407_1 := (HB.out.cell (World.block_lt_of_cell? w _ hx407_1)).trans hx407_1
         replace hx407_2 := (HB.out.cell (World.block_lt_of_cell? w _ hx407_2)).trans hx407_2
         replace hx407_3 := (HB.out.cell (World.block_lt_of_cell? w _ hx407_3)).trans hx407_3
         replace p407 := eq_true p407
         replace q407 := eq_true q407
         have p408 : 0 ≤ (x5_1 : Int) := of_decide_eq_true (zz10)
         have q408 : x5_1 < (l0_1.length : Int) := of_decide_eq_true (zz10)
         obtain ⟨ad408, e408, hx408_0, hx408_1, hx408_2, hx408_3⟩ := at_T41 HR0_1.out x5_1 p408 q408
         obtain rfl : ad407 = ad408 := (by injection e408)
         replace hx408_0 := (HB.out.cell (World.block_lt_of_cell? w _ hx408_0)).trans hx408_0
         replace hx408_1 := (HB.out.cell (World.block_lt_of_cell? w _ hx408_1)).trans hx408_1
         replace hx408_2 := (HB.out.cell (World.block_lt_of_cell? w _ hx408_2)).trans hx408_2
         replace hx408_3 := (HB.out.cell (World.block_lt_of_cell? w _ hx408_3)).trans hx408_3
         replace p408 := eq_true p408
         replace q408 := eq_true q408
         have p409 : 0 ≤ (a1 : Int) := of_decide_eq_true (zz10)
         have q409 : a1 < (l0_1.length : Int) := of_decide_eq_true (zz10)
         obtain ⟨ad409, e409, hx409_0, hx409_1, hx409_2, hx409_3⟩ := at_T41 HR0_1.out a1 p409 q409
         obtain rfl : ad407 = ad409 := (by injection e409)
         replace hx409_0 := (HB.out.cell (World.block_lt_of_cell? w _ hx409_0)).trans hx409_0
         replace hx409_1 := (HB.out.cell (World.block_lt_of_cell? w _ hx409_1)).trans hx409_1
         replace hx409_2 := (HB.out.cell (World.block_lt_of_cell? w _ hx409_2)).trans hx409_2
         replace hx409_3 := (HB.out.cell (World.block_lt_of_cell? w _ hx409_3)).trans hx409_3
         replace p409 := eq_true p409
         replace q409 := eq_true q409
         go_wp2
         repeat (go_quiet (fail); try go_wp2)
         go_ret
         exact ⟨zz8, zz20⟩
        ·rw [if_neg c9] at H
         have c9b0 : (((rd_T41 l0_1 x5_1).f2) == ((rd_T41 l0_1 a1).f2)) = false := beq_eq_false_iff_ne.mpr c9
         have c9b1 : (((rd_T41 l0_1 x5_1).f2) != ((rd_T41 l0_1 a1).f2)) = true := bne_iff_ne.mpr c9
         have H' := Aside0.mk H
         clear H
         have hcz11_0 : wr.cell? ⟨gb406, 0, none⟩ = some (.slice A0_0 l0_0.length c0_0) := (blk_cell BK406.out 0).trans rfl
         have hcz11_1 : wr.cell? ⟨gb406, 1, none⟩ = some (.slice A0_1 l0_1.length c0_1) := (blk_cell BK406.out 1).trans rfl
         have hfz11_0 := blk_frozen BK406.out 0
         have hfz11_1 := blk_frozen BK406.out 1
         have p407 : 0 ≤ (a1 : Int) := of_decide_eq_true (zz10)
         have q407 : a1 < (l0_1.length : Int) := of_decide_eq_true (zz10)
         obtain ⟨ad407, e407, hx407_0, hx407_1, hx407_2, hx407_3⟩ := at_T41 HR0_1.out a1 p407 q407
         cases e407
         replace hx407_0 := (HB.out.cell (World.block_lt_of_cell? w _ hx407_0)).trans hx407_0
         replace hx407_1 := (HB.out.cell (World.block_lt_of_cell? w _ hx407_1)).trans hx407_1
         replace hx407_2 := (HB.out.cell (World.block_lt_of_cell? w _ hx407_2)).trans hx407_2
         replace hx407_3 := (HB.out.cell (World.block_lt_of_cell? w _ hx407_3)).trans hx407_3
         replace p407 := eq_true p407
         replace q407 := eq_true q407
         have p408 : 0 ≤ (x5_1 : Int) := of_decide_eq_true (zz10)
         have q408 : x5_1 < (l0_1.length : Int) := of_decide_eq_true (zz10)
         obtain ⟨ad408, e408, hx408_0, hx408_1, hx408_2, hx408_3⟩ := at_T41 HR0_1.out x5_1 p408 q408
         obtain rfl : ad407 = ad408 := (by injection e408)
         replace hx408_0 := (HB.out.cell (World.block_lt_of_cell? w _ hx408_0)).trans hx408_0
         replace hx408_1 := (HB.out.cell (World.block_lt_of_cell? w _ hx408_1)).trans hx408_1
         replace hx408_2 := (HB.out.cell (World.block_lt_of_cell? w _ hx408_2)).trans hx408_2
         replace hx408_3 := (HB.out.cell (World.block_lt_of_cell? w _ hx408_3)).trans hx408_3
         replace p408 := eq_true p408
         replace q408 := eq_true q408
         have p409 : 0 ≤ (a1 : Int) := of_decide_eq_true (zz10)
         have q409 : a1 < (l0_1.length : Int) := of_decide_eq_true (zz10)
         obtain ⟨ad409, e409, hx409_0, hx409_1, hx409_2, hx409_3⟩ := at_T41 HR0_1.out a1 p409 q409
         obtain rfl : ad407 = ad409 := (by injection e409)
         replace hx409_0 := (HB.out.cell (World.block_lt_of_cell? w _ hx409_0)).trans hx409_0
         replace hx409_1 := (HB.out.cell (World.block_lt_of_cell? w _ hx409_1)).trans hx409_1
         replace hx409_2 := (HB.out.cell (World.block_lt_of_cell? w _ hx409_2)).trans hx409_2
         replace hx409_3 := (HB.out.cell (World.block_lt_of_cell? w _ hx409_3)).trans hx409_3
         replace p409 := eq_true p409
         replace q409 := eq_true q409
         go_wp2
         repeat (go_quiet (fail); try go_wp2)
         go_roundg k1
         case measure => have := HK1.out; omega
         case rel => exact ⟨(wrap64 (x5_1 - 1)), (zz5), H', ⟨zz36⟩, ⟨by (with_reducible repeat (first | refine blk_drewN ?_ _ | refine blk_drew ?_ | refine blk_alloc ?_ _)); exact BK406.out⟩, ⟨zz20⟩⟩
       ·rw [if_neg c8] at H
        exact absurd H (by simp)
      ·rw [if_neg c7] at H
       exact absurd H (by simp)
     ·rw [if_neg c6] at H
      have c6b0 : decide (((rd_T41 l0_1 a1).f2) < x5_1) = false := decide_eq_false c6
      clear c6
      obtain rfl := Option.some.inj H
      have hcz12_0 : wr.cell? ⟨gb406, 0, none⟩ = some (.slice A0_0 l0_0.length c0_0) := (blk_cell BK406.out 0).trans rfl
      have hcz12_1 : wr.cell? ⟨gb406, 1, none⟩ = some (.slice A0_1 l0_1.length c0_1) := (blk_cell BK406.out 1).trans rfl
      have hfz12_0 := blk_frozen BK406.out 0
      have hfz12_1 := blk_frozen BK406.out 1
      have p407 : 0 ≤ (a1 : Int) := of_decide_eq_true (zz10)
      have q407 : a1 < (l0_1.length : Int) := of_decide_eq_true (zz10)
      obtain ⟨ad407, e407, hx407_0, hx407_1, hx407_2, hx407_3⟩ := at_T41 HR0_1.out a1 p407 q407
      cases e407
      replace hx407_0 := (HB.out.cell (World.block_lt_of_cell? w _ hx407_0)).trans hx407_0
      replace hx407_1 := (HB.out.cell (World.block_lt_of_cell? w _ hx407_1)).trans hx407_1
      replace hx407_2 := (HB.out.cell (World.block_lt_of_cell? w _ hx407_2)).trans hx407_2
      replace hx407_3 := (HB.out.cell (World.block_lt_of_cell? w _ hx407_3)).trans hx407_3
      replace p407 := eq_true p407
      replace q407 := eq_true q407
      go_wp2
      repeat (go_quiet (fail); try go_wp2)
      go_ret
      exact ⟨zz8, zz20⟩
    ·rw [if_neg c5] at H
     exact absurd H (by simp)
   ·rw [if_neg c4] at H
    exact absurd H (by simp)
def R4_depth.l0 : Nat → Int → Int → List ByteArray → List (S41) → Option (Int)
 | 0, _, _, _, _ => none
 | k + 1, x1, x5, x411000, x411001 => if 0 ≤ x1 then (if x1 < (x411001.length : Int) then (if ((rd_T41 x411001 x1).f2) ≥ 0 then (R4_depth.l0 k ((rd_T41 x411001 x1).f2) (wrap64 (x5 + 1)) x411000 x411001) else (some x5)) else (none)) else (none)
def R4_depth.f (k : Nat) (l0_0 : List ByteArray) (l0_1 : List (S41)) (a1 : Int) : Option (Int) := R4_depth.l0 k a1 0 l0_0 l0_1
set_option maxHeartbeats 8000000 in
set_option maxRecDepth 100000 in
theorem R4_depth.calls (k : Nat) (A0_0 : Option Addr) (c0_0 : Nat) (l0_0 : List ByteArray) (A0_1 : Option Addr) (c0_1 : Nat) (l0_1 : List (S41)) (a1 : Int) (r : Int) (w : World) (hr0_0 : Kd.C Kd.string w A0_0 l0_0.length l0_0) (hc0_0 : l0_0.length ≤ c0_0) (hr0_1 : Kd.C k41 w A0_1 l0_1.length l0_1) (hc0_1 : l0_1.length ≤ c0_1) (h : R4_depth.f k l0_0 l0_1 a1 = some r) :
 Calls Tryz.prog 52 #[.agg #[.slice A0_0 l0_0.length c0_0, .slice A0_1 l0_1.length c0_1], .int .i64 a1] w fun e w' => e = .returned (.int .i64 r) ∧ Below w.heap.size w w' := by
 have hu27 := Tryz.underlying27
 have HR0_0 := Aside0.mk hr0_0
 have HC0_0 := Aside0.mk hc0_0
 clear hr0_0 hc0_0
 have HR0_1 := Aside0.mk hr0_1
 have HC0_1 := Aside0.mk hc0_1
 clear hr0_1 hc0_1
 have HB := Aside0.mk (Below.refl w.heap.size w)
 have H : (R4_depth.l0 k a1 0 l0_0 l0_1) = some r := h
 clear h
 have H' := Aside0.mk H
 clear H
 go_enter Tryz.func52, Tryz.ntmps52
 go_wp2_with (first | ((with_reducible refine gate_dst (N := 2) rfl ?_); refine box_event ?hg (N := 2) ?hd (cs := #[.slice A0_0 l0_0.length c0_0, .slice A0_1 l0_1.length c0_1]) (t := 27) ?hr ?_; (case hd => rfl); (case hg => rfl); (case hr => first | (go_simp; done) | (go_simp; rfl)); intro gb410 hg w3 hbox hb; have n0_ := Aside0.mk (below_step (zz0) hb); have n1_ := Aside0.mk (hbox); have n2_ := Aside0.mk ((zz24 : w.heap.size ≤ gb410)); have n3_ := Aside0.mk ((zz24 : w.heap.size ≤ gb410)); clear HB; have HB := n0_; have BK410 := n1_; have GW410 := n2_; have GE410 := n3_; clear n0_ n1_ n2_ n3_; clear hb hbox hg))
 go_loopg [1, 5] k (fun kq v1 v5 w' => ∃ (x1_1 : Int) (x5_1 : Int), v1 = .int .i64 x1_1 ∧ v5 = .int .i64 x5_1 ∧ Aside0 (R4_depth.l0 kq x1_1 x5_1 l0_0 l0_1 = some r) ∧ Aside0 (kq ≤ k) ∧ Aside0 (w'.heap[gb410]? = some (.cells #[(.slice A0_0 l0_0.length c0_0), (.slice A0_1 l0_1.length c0_1)] 27 (0, 0))) ∧ Aside0 (Below w.heap.size w w'))
 case atStart => exact ⟨(a1), (0), (zz5), (zz5), H', ⟨Nat.le_refl _⟩, ⟨by (with_reducible repeat (first | refine blk_drewN ?_ _ | refine blk_drew ?_ | refine blk_alloc ?_ _)); exact BK410.out⟩, ⟨zz27⟩⟩
 case round =>
  clear H'
  try clear p2
  obtain ⟨x1_1, x5_1, rfl, rfl, HA, HK1, BK410, HB⟩ := hrel
  cases gk with
  | zero => exact absurd HA.out (by simp [R4_depth.l0])
  | succ k1 =>
   have H := HA.out
   clear HA
   simp only [R4_depth.l0] at H
   by_cases c4 : 0 ≤ x1_1
   ·rw [if_pos c4] at H
    have c4b0 : decide (0 ≤ x1_1) = true := decide_eq_true c4
    clear c4
    by_cases c5 : x1_1 < (l0_1.length : Int)
    ·rw [if_pos c5] at H
     have c5b0 : decide (x1_1 < (l0_1.length : Int)) = true := decide_eq_true c5
     clear c5
     by_cases c6 : ((rd_T41 l0_1 x1_1).f2) ≥ 0
     ·rw [if_pos c6] at H
      have c6b0 : decide (0 ≤ ((rd_T41 l0_1 x1_1).f2)) = true := decide_eq_true c6
      clear c6
      have H' := Aside0.mk H
      clear H
      have hcz7_0 : wr.cell? ⟨gb410, 0, none⟩ = some (.slice A0_0 l0_0.length c0_0) := (blk_cell BK410.out 0).trans rfl
      have hcz7_1 : wr.cell? ⟨gb410, 1, none⟩ = some (.slice A0_1 l0_1.length c0_1) := (blk_cell BK410.out 1).trans rfl
      have hfz7_0 := blk_frozen BK410.out 0
      have hfz7_1 := blk_frozen BK410.out 1
      have p411 : 0 ≤ (x1_1 : Int) := of_decide_eq_true (zz10)
      have q411 : x1_1 < (l0_1.length : Int) := of_decide_eq_true (zz10)
      obtain ⟨ad411, e411, hx411_0, hx411_1, hx411_2, hx411_3⟩ := at_T41 HR0_1.out x1_1 p411 q411
      cases e411
      replace hx411_0 := (HB.out.cell (World.block_lt_of_cell? w _ hx411_0)).trans hx411_0
      replace hx411_1 := (HB.out.cell (World.block_lt_of_cell? w _ hx411_1)).trans hx411_1
      replace hx411_2 := (HB.out.cell (World.block_lt_of_cell? w _ hx411_2)).trans hx411_2
      replace hx411_3 := (HB.out.cell (World.block_lt_of_cell? w _ hx411_3)).trans hx411_3
      replace p411 := eq_true p411
      replace q411 := eq_true q411
      have p412 : 0 ≤ (x1_1 : Int) := of_decide_eq_true (zz10)
      have q412 : x1_1 < (l0_1.length : Int) := of_decide_eq_true (zz10)
      obtain ⟨ad412, e412, hx412_0, hx412_1, hx412_2, hx412_3⟩ := at_T41 HR0_1.out x1_1 p412 q412
      obtain rfl : ad411 = ad412 := (by injection e412)
      replace hx412_0 := (HB.out.cell (World.block_lt_of_cell? w _ hx412_0)).trans hx412_0
      replace hx412_1 := (HB.out.cell (World.block_lt_of_cell? w _ hx412_1)).trans hx412_1
      replace hx412_2 := (HB.out.cell (World.block_lt_of_cell? w _ hx412_2)).trans hx412_2
      replace hx412_3 := (HB.out.cell (World.block_lt_of_cell? w _ hx412_3)).trans hx412_3
      replace p412 := eq_true p412
      replace q412 := eq_true q412
      go_wp2
      go_roundg k1
      case measure => have := HK1.out; omega
      case rel => exact ⟨((rd_T41 l0_1 x1_1).f2), (wrap64 (x5_1 + 1)), (zz5), (zz5), H', ⟨zz36⟩, ⟨by (with_reducible repeat (first | refine blk_drewN ?_ _ | refine blk_drew ?_ | refine blk_alloc ?_ _)); exact BK410.out⟩, ⟨zz27⟩⟩
     ·rw [if_neg c6] at H
      have c6b0 : decide (0 ≤ ((rd_T41 l0_1 x1_1).f2)) = false := decide_eq_false c6
      clear c6
      obtain rfl := Option.some.inj H
      have hcz8_0 : wr.cell? ⟨gb410, 0, none⟩ = some (.slice A0_0 l0_0.length c0_0) := (blk_cell BK410.out 0).trans rfl
      have hcz8_1 : wr.cell? ⟨gb410, 1, none⟩ = some (.slice A0_1 l0_1.length c0_1) := (blk_cell BK410.out 1).trans rfl
      have hfz8_0 := blk_frozen BK410.out 0
      have hfz8_1 := blk_frozen BK410.out 1
      have p411 : 0 ≤ (x1_1 : Int) := of_decide_eq_true (zz10)
      have q411 : x1_1 < (l0_1.length : Int) := of_decide_eq_true (zz10)
      obtain ⟨ad411, e411, hx411_0, hx411_1, hx411_2, hx411_3⟩ := at_T41 HR0_1.out x1_1 p411 q411
      cases e411
      replace hx411_0 := (HB.out.cell (World.block_lt_of_cell? w _ hx411_0)).trans hx411_0
      replace hx411_1 := (HB.out.cell (World.block_lt_of_cell? w _ hx411_1)).trans hx411_1
      replace hx411_2 := (HB.out.cell (World.block_lt_of_cell? w _ hx411_2)).trans hx411_2
      replace hx411_3 := (HB.out.cell (World.block_lt_of_cell? w _ hx411_3)).trans hx411_3
      replace p411 := eq_true p411
      replace q411 := eq_true q411
      go_wp2
      go_ret
      exact ⟨zz8, zz27⟩
    ·rw [if_neg c5] at H
     exact absurd H (by simp)
   ·rw [if_neg c4] at H
    exact absurd H (by simp)
end Go.Proofs.YtlhhhlimjajnlaaGreat.Q
end
