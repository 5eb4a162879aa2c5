/- Parts of the proof of canonTrees_holds, kept and merged by a program of mine (wip/tools/slim.py) out of my texts: Q2 -/
import Derived.Test.YtlhhhlimjajnlaaGreatSPt0
import Derived.Test.YtlhhhlimjajnlaaGreatSPt4
section
namespace Go.Proofs.YtlhhhlimjajnlaaGreat.X
end Go.Proofs.YtlhhhlimjajnlaaGreat.X
namespace Go.Proofs.YtlhhhlimjajnlaaGreat.Q
open Go.RowKit Go.Proofs.YtlhhhlimjajnlaaGreatW.PrintWords Go.Proofs.YtlhhhlimjajnlaaGreatW.PrintLast Go.Proofs.YtlhhhlimjajnlaaGreatW.PrintMore
attribute [local go_sem] max2_int min2_int max_two min_two max_three min_three max_four min_four   
open Go.Proofs.YtlhhhlimjajnlaaGreat.X
set_option linter.unusedVariables false
set_option linter.unusedSimpArgs false
def R1_begins.f (a0 : ByteArray) (a1 : Int) (a2 : ByteArray) : Option (Bool) := if a1 ≥ 0 then (if a1 ≤ (a0.size : Int) then (if (wrap64 ((a0.size : Int) - a1)) ≥ (a2.size : Int) then (if 0 ≤ a1 then (if a1 ≤ (wrap64 (a1 + (a2.size : Int))) then (if (wrap64 (a1 + (a2.size : Int))) ≤ (a0.size : Int) then (some ((a0.extract (a1 : Int).toNat ((wrap64 (a1 + (a2.size : Int))) : Int).toNat).toList == a2.toList)) else (none)) else (none)) else (none)) else (some false)) else (some false)) else (some false)
set_option maxHeartbeats 8000000 in
set_option maxRecDepth 100000 in
theorem R1_begins.calls (a0 : ByteArray) (a1 : Int) (a2 : ByteArray) (r : Bool) (w : World) (h : R1_begins.f a0 a1 a2 = some r) :
 Calls Tryz.prog 137 #[.string a0, .int .i64 a1, .string a2] w fun e w' => e = .returned (.bool r) ∧ Drawn0 w w' := by
 have H : (if a1 ≥ 0 then (if a1 ≤ (a0.size : Int) then (if (wrap64 ((a0.size : Int) - a1)) ≥ (a2.size : Int) then (if 0 ≤ a1 then (if a1 ≤ (wrap64 (a1 + (a2.size : Int))) then (if (wrap64 (a1 + (a2.size : Int))) ≤ (a0.size : Int) then (some ((a0.extract (a1 : Int).toNat ((wrap64 (a1 + (a2.size : Int))) : Int).toNat).toList == a2.toList)) else (none)) else (none)) else (none)) else (some false)) else (some false)) else (some false)) = some r := h
 clear h
 revert H; refine X.ite_d (c := 0 ≤ a1) (fun c4b0 H => ?_) (fun c4b0 H => ?_)
 revert H; refine X.ite_d (fun c5b0 H => ?_) (fun c5b0 H => ?_)
 revert H; refine X.ite_d (c := (a2.size : Int) ≤ (wrap64 ((a0.size : Int) - a1))) (fun c6b0 H => ?_) (fun c6b0 H => ?_)
 by_cases c7 : 0 ≤ a1
 rw [if_pos c7] at H
 have c7b0 := eq_true c7
 have c7b1 : decide (0 ≤ a1) = true := decide_eq_true c7
 clear c7
 by_cases c8 : a1 ≤ (wrap64 (a1 + (a2.size : Int)))
 rw [if_pos c8] at H
 have c8b0 := eq_true c8
 have c8b1 : decide (a1 ≤ (wrap64 (a1 + (a2.size : Int)))) = true := decide_eq_true c8
 by_cases c9 : (wrap64 (a1 + (a2.size : Int))) ≤ (a0.size : Int)
 rw [if_pos c9] at H
 have c9b0 := eq_true c9
 have c9b1 : decide ((wrap64 (a1 + (a2.size : Int))) ≤ (a0.size : Int)) = true := decide_eq_true c9
 rotate_left
 ·rw [if_neg c9] at H
  exact absurd H (by simp)
 ·rw [if_neg c8] at H
  exact absurd H (by simp)
 ·rw [if_neg c7] at H
  exact absurd H (by simp)
 rotate_left
 rotate_left
 ·obtain rfl := Option.some.inj H
  go_enter Tryz.func137, Tryz.ntmps137
  go_wp2
  go_ret
  exact zz34
 all_goals
  obtain rfl := Option.some.inj H
  go_enter Tryz.func137, Tryz.ntmps137
  go_wp2
  go_ret
  exact zz34
mutual
def R1_number.l0 : Nat → ByteArray → Int → Int → Int → Int → Option (Int × Int)
 | 0, _, _, _, _, _ => none
 | k + 1, x0, x1, x2, x8, x9 => if x9 ≤ 8 then (if (wrap64 (x1 + x9)) ≥ (x0.size : Int) then (some (0, 0)) else (if 0 ≤ (wrap64 (x1 + x9)) then (if (wrap64 (x1 + x9)) < (x0.size : Int) then (if (wrap64 (bt x0 (wrap64 (x1 + x9)))) = 59 then (R1_number.j1 k x0 x1 x2 x8 x9 (wrap64 (bt x0 (wrap64 (x1 + x9)))) (decide (x9 > 0))) else (R1_number.j1 k x0 x1 x2 x8 x9 (wrap64 (bt x0 (wrap64 (x1 + x9)))) false)) else (none)) else (none))) else (some (0, 0))
def R1_number.j1 : Nat → ByteArray → Int → Int → Int → Int → Int → Bool → Option (Int × Int)
 | 0, _, _, _, _, _, _, _ => none
 | k + 1, x0, x1, x2, x8, x9, x10, x33 => if x33 = true then (some (x8, x9)) else (if x10 ≥ 48 then (R1_number.j2 k x0 x1 x2 x8 x9 x10 99 (decide (x10 ≤ 57))) else (R1_number.j2 k x0 x1 x2 x8 x9 x10 99 false))
def R1_number.j2 : Nat → ByteArray → Int → Int → Int → Int → Int → Int → Bool → Option (Int × Int)
 | 0, _, _, _, _, _, _, _, _ => none
 | k + 1, x0, x1, x2, x8, x9, x10, x11, x41 => if x41 = true then (R1_number.j3 k x0 x1 x2 x8 x9 x10 (wrap64 (x10 - 48))) else (R1_number.j3 k x0 x1 x2 x8 x9 x10 x11)
def R1_number.j3 : Nat → ByteArray → Int → Int → Int → Int → Int → Int → Option (Int × Int)
 | 0, _, _, _, _, _, _, _ => none
 | k + 1, x0, x1, x2, x8, x9, x10, x11 => if x10 ≥ 97 then (R1_number.j4 k x0 x1 x2 x8 x9 x10 x11 (decide (x10 ≤ 102))) else (R1_number.j4 k x0 x1 x2 x8 x9 x10 x11 false)
def R1_number.j4 : Nat → ByteArray → Int → Int → Int → Int → Int → Int → Bool → Option (Int × Int)
 | 0, _, _, _, _, _, _, _, _ => none
 | k + 1, x0, x1, x2, x8, x9, x10, x11, x49 => if x49 = true then (R1_number.j5 k x0 x1 x2 x8 x9 x10 (wrap64 ((wrap64 (x10 - 97)) + 10))) else (R1_number.j5 k x0 x1 x2 x8 x9 x10 x11)
def R1_number.j5 : Nat → ByteArray → Int → Int → Int → Int → Int → Int → Option (Int × Int)
 | 0, _, _, _, _, _, _, _ => none
 | k + 1, x0, x1, x2, x8, x9, x10, x11 => if x10 ≥ 65 then (R1_number.j6 k x0 x1 x2 x8 x9 x10 x11 (decide (x10 ≤ 70))) else (R1_number.j6 k x0 x1 x2 x8 x9 x10 x11 false)
def R1_number.j6 : Nat → ByteArray → Int → Int → Int → Int → Int → Int → Bool → Option (Int × Int)
 | 0, _, _, _, _, _, _, _, _ => none
 | k + 1, x0, x1, x2, x8, x9, x10, x11, x58 => if x58 = true then (if (wrap64 ((wrap64 (x10 - 65)) + 10)) ≥ x2 then (some (0, 0)) else (R1_number.l0 k x0 x1 x2 (wrap64 ((wrap64 (x8 * x2)) + (wrap64 ((wrap64 (x10 - 65)) + 10)))) (wrap64 (x9 + 1)))) else (if x11 ≥ x2 then (some (0, 0)) else (R1_number.l0 k x0 x1 x2 (wrap64 ((wrap64 (x8 * x2)) + x11)) (wrap64 (x9 + 1))))
end
def R1_number.f (k : Nat) (a0 : ByteArray) (a1 : Int) (a2 : Int) : Option (Int × Int) := R1_number.l0 k a0 a1 a2 0 0
theorem R1_number.mono_l : ∀ k, (∀ y0 y1 y2 y3 y4, LeO (R1_number.l0 k y0 y1 y2 y3 y4) (R1_number.l0 (k + 1) y0 y1 y2 y3 y4)) ∧ (∀ y0 y1 y2 y3 y4 y5 y6, LeO (R1_number.j1 k y0 y1 y2 y3 y4 y5 y6) (R1_number.j1 (k + 1) y0 y1 y2 y3 y4 y5 y6)) ∧ (∀ y0 y1 y2 y3 y4 y5 y6 y7, LeO (R1_number.j2 k y0 y1 y2 y3 y4 y5 y6 y7) (R1_number.j2 (k + 1) y0 y1 y2 y3 y4 y5 y6 y7)) ∧ (∀ y0 y1 y2 y3 y4 y5 y6, LeO (R1_number.j3 k y0 y1 y2 y3 y4 y5 y6) (R1_number.j3 (k + 1) y0 y1 y2 y3 y4 y5 y6)) ∧ (∀ y0 y1 y2 y3 y4 y5 y6 y7, LeO (R1_number.j4 k y0 y1 y2 y3 y4 y5 y6 y7) (R1_number.j4 (k + 1) y0 y1 y2 y3 y4 y5 y6 y7)) ∧ (∀ y0 y1 y2 y3 y4 y5 y6, LeO (R1_number.j5 k y0 y1 y2 y3 y4 y5 y6) (R1_number.j5 (k + 1) y0 y1 y2 y3 y4 y5 y6)) ∧ (∀ y0 y1 y2 y3 y4 y5 y6 y7, LeO (R1_number.j6 k y0 y1 y2 y3 y4 y5 y6 y7) (R1_number.j6 (k + 1) y0 y1 y2 y3 y4 y5 y6 y7))
 | 0 => ⟨fun _ _ _ _ _ r h => by simp [R1_number.l0] at h, fun _ _ _ _ _ _ _ r h => by simp [R1_number.j1] at h, fun _ _ _ _ _ _ _ _ r h => by simp [R1_number.j2] at h, fun _ _ _ _ _ _ _ r h => by simp [R1_number.j3] at h, fun _ _ _ _ _ _ _ _ r h => by simp [R1_number.j4] at h, fun _ _ _ _ _ _ _ r h => by simp [R1_number.j5] at h, fun _ _ _ _ _ _ _ _ r h => by simp [R1_number.j6] at h⟩
 | k + 1 => by
  obtain ⟨ih0, ih1, ih2, ih3, ih4, ih5, ih6⟩ := R1_number.mono_l k
  refine ⟨?_, ?_, ?_, ?_, ?_, ?_, ?_⟩
  ·intro y0 y1 y2 y3 y4
   unfold R1_number.l0
   exact leT
  ·intro y0 y1 y2 y3 y4 y5 y6
   unfold R1_number.j1
   exact leT
  ·intro y0 y1 y2 y3 y4 y5 y6 y7
   unfold R1_number.j2
   exact leT
  ·intro y0 y1 y2 y3 y4 y5 y6
   unfold R1_number.j3
   exact leT
  ·intro y0 y1 y2 y3 y4 y5 y6 y7
   unfold R1_number.j4
   exact leT
  ·intro y0 y1 y2 y3 y4 y5 y6
   unfold R1_number.j5
   exact leT
  ·intro y0 y1 y2 y3 y4 y5 y6 y7
   unfold R1_number.j6
   exact leT
theorem R1_number.mono : ∀ a0 a1 a2 k, LeO (R1_number.f k a0 a1 a2) (R1_number.f (k + 1) a0 a1 a2) := by
 intro a0 a1 a2 k
 obtain ⟨ih0, ih1, ih2, ih3, ih4, ih5, ih6⟩ := R1_number.mono_l k
 unfold R1_number.f
 exact leT
set_option maxHeartbeats 8000000 in
set_option maxRecDepth 100000 in
theorem R1_number.calls (k : Nat) (a0 : ByteArray) (a1 : Int) (a2 : Int) (r1 : Int) (r2 : Int) (w : World) (h : R1_number.f k a0 a1 a2 = some (r1, r2)) :
 Calls Tryz.prog 138 #[.string a0, .int .i64 a1, .int .i64 a2] w fun e w' => e = .returned (.tuple #[.int .i64 r1, .int .i64 r2]) ∧ Drawn0 w w' := by
 have H : (R1_number.l0 k a0 a1 a2 0 0) = some (r1, r2) := h
 clear h
 have H' := Aside0.mk H
 clear H
 go_enter Tryz.func138, Tryz.ntmps138
 go_wp2
 go_loopg [8, 9] k (fun kq v8 v9 w' => ∃ (x8_1 : Int) (x9_1 : Int), v8 = .int .i64 x8_1 ∧ v9 = .int .i64 x9_1 ∧ Aside0 (R1_number.l0 kq a0 a1 a2 x8_1 x9_1 = some (r1, r2)) ∧ Aside0 (kq ≤ k) ∧ Drawn0 w w')
 case atStart => exact ⟨(0), (0), (by rfl), (by rfl), H', ⟨Nat.le_refl _⟩, by repeat (exact Drawn0.refl _)⟩
 case round =>
  clear H'
  obtain ⟨x8_1, x9_1, rfl, rfl, HA, HK1, ⟨m1, rfl⟩⟩ := hrel
  cases gk with
  | zero => exact absurd HA.out (by simp [R1_number.l0])
  | succ k1 =>
   have H := HA.out
   clear HA
   simp only [R1_number.l0] at H
   by_cases c4 : x9_1 ≤ 8
   ·rw [if_pos c4] at H
    have c4b0 : decide (x9_1 ≤ 8) = true := decide_eq_true c4
    clear c4
    by_cases c5 : (wrap64 (a1 + x9_1)) ≥ (a0.size : Int)
    ·rw [if_pos c5] at H
     have c5b0 : decide ((a0.size : Int) ≤ (wrap64 (a1 + x9_1))) = true := decide_eq_true c5
     clear c5
     simp only [Option.some.injEq, Prod.mk.injEq] at H
     obtain ⟨rfl, rfl⟩ := H
     go_wp2
     go_ret2
     exact ⟨by rfl, zz5⟩
    ·rw [if_neg c5] at H
     have c5b0 : decide ((a0.size : Int) ≤ (wrap64 (a1 + x9_1))) = false := decide_eq_false c5
     clear c5
     obtain ⟨ji6, hji6⟩ : ∃ j_ : Int, (wrap64 (a1 + x9_1)) = j_ := ⟨_, rfl⟩
     replace H : (if 0 ≤ (ji6) then (if (ji6) < (a0.size : Int) then (if (wrap64 (bt a0 (ji6))) = 59 then (R1_number.j1 k1 a0 a1 a2 x8_1 x9_1 (wrap64 (bt a0 (ji6))) (decide (x9_1 > 0))) else (R1_number.j1 k1 a0 a1 a2 x8_1 x9_1 (wrap64 (bt a0 (ji6))) false)) else (none)) else (none)) = some (r1, r2) := by ((rw [hji6] at H; exact H))
     (rw [hji6] at c5b0)
     have hji6w : (IntKind.i64.wrap (a1 + x9_1)) = ji6 := (i64_w _).trans hji6
     by_cases c7 : 0 ≤ (ji6)
     ·rw [if_pos c7] at H
      have c7b0 : decide (0 ≤ (ji6)) = true := decide_eq_true c7
      clear c7
      by_cases c8 : (ji6) < (a0.size : Int)
      ·rw [if_pos c8] at H
       have c8b0 : decide ((ji6) < (a0.size : Int)) = true := decide_eq_true c8
       clear c8
       have HC10 := Aside0.mk H
       clear H
       have p9 : 0 ≤ ((ji6) : Int) := of_decide_eq_true (zz17)
       have q9 : (ji6) < (a0.size : Int) := of_decide_eq_true (zz17)
       have hx9 := bt_at a0 (ji6)
       replace p9 := eq_true p9
       replace q9 := eq_true q9
       go_upto_region 8 with (fail)
       go_cut [33] (fun v33 wc => ∃ (kq : Nat) (x33_9 : Bool), v33 = .bool x33_9 ∧ Aside0 (R1_number.j1 kq a0 a1 a2 x8_1 x9_1 (wrap64 (bt a0 (ji6))) x33_9 = some (r1, r2)) ∧ Aside0 (kq ≤ k1) ∧ Drawn0 w wc)
       case first =>
        have H := HC10.out
        clear HC10
        revert H; refine X.ite_b (fun c11b0 c11b1 H => ?_) (fun c11b0 c11b1 H => ?_)
        rotate_left
        rotate_left
        all_goals
         have H' := Aside0.mk H
         clear H
         go_wp2
         go_meet
         case rel => first | (exact ⟨_, (decide (x9_1 > 0)), (by rfl), H', ⟨by have := HK1.out; first | omega | exact Nat.le_refl _⟩, zz5⟩) | (exact ⟨_, (false), (by rfl), H', ⟨zz46⟩, zz5⟩)
       case rest =>
        clear HC10
        clear c4b0
        clear c5b0
        clear c7b0
        clear c8b0
        clear p9
        clear q9
        clear hx9
        obtain ⟨kq, x33_9, rfl, HA, HJ9, ⟨mc9, rfl⟩⟩ := hcut
        cases kq with
        | zero => exact absurd HA.out (by simp [R1_number.j1])
        | succ kj9 =>
         have H := HA.out
         clear HA
         simp only [R1_number.j1] at H
         by_cases c12 : x33_9 = true
         ·subst c12
          rw [if_pos rfl] at H
          simp only [Option.some.injEq, Prod.mk.injEq] at H
          obtain ⟨rfl, rfl⟩ := H
          go_wp2
          go_ret2
          exact ⟨by rfl, zz5⟩
         ·replace c12 := Bool.eq_false_iff.mpr c12
          subst c12
          rw [if_neg (show ¬ (false = true) by decide)] at H
          have HC13 := Aside0.mk H
          clear H
          go_upto_region 11 with (fail)
          go_cut [41] (fun v41 wc => ∃ (kq : Nat) (x41_12 : Bool), v41 = .bool x41_12 ∧ Aside0 (R1_number.j2 kq a0 a1 a2 x8_1 x9_1 (wrap64 (bt a0 (ji6))) 99 x41_12 = some (r1, r2)) ∧ Aside0 (kq ≤ kj9) ∧ Drawn0 w wc)
          case first =>
           have H := HC13.out
           clear HC13
           revert H; refine X.ite_d (c := 48 ≤ (wrap64 (bt a0 (ji6)))) (fun c14b0 H => ?_) (fun c14b0 H => ?_)
           rotate_left
           rotate_left
           all_goals
            have H' := Aside0.mk H
            clear H
            go_wp2
            go_meet
            case rel => first | (exact ⟨_, (decide ((wrap64 (bt a0 (ji6))) ≤ 57)), (by first | rfl | (simp only [← hji6] <;> (simp))), H', ⟨by have := HK1.out; have := HJ9.out; first | omega | exact Nat.le_refl _⟩, zz5⟩) | (exact ⟨_, (false), (by rfl), H', ⟨by have := HK1.out; have := HJ9.out; omega⟩, zz5⟩)
          case rest =>
           clear HC13
           obtain ⟨kq, x41_12, rfl, HA, HJ12, ⟨mc12, rfl⟩⟩ := hcut
           cases kq with
           | zero => exact absurd HA.out (by simp [R1_number.j2])
           | succ kj12 =>
            have H := HA.out
            clear HA
            simp only [R1_number.j2] at H
            have HC15 := Aside0.mk H
            clear H
            go_upto_if 41 with (fail)
            go_cut [11] (fun v11 wc => ∃ (kq : Nat) (x11_14 : Int), v11 = .int .i64 x11_14 ∧ Aside0 (R1_number.j3 kq a0 a1 a2 x8_1 x9_1 (wrap64 (bt a0 (ji6))) x11_14 = some (r1, r2)) ∧ Aside0 (kq ≤ kj12) ∧ Drawn0 w wc)
            case first =>
             have H := HC15.out
             clear HC15
             by_cases c16 : x41_12 = true
             subst c16
             rw [if_pos rfl] at H
             rotate_left
             replace c16 := Bool.eq_false_iff.mpr c16
             subst c16
             rw [if_neg (show ¬ (false = true) by decide)] at H
             rotate_left
             all_goals
              have H' := Aside0.mk H
              clear H
              go_wp2
              go_meet
              case rel => first | (exact ⟨_, (wrap64 ((wrap64 (bt a0 (ji6))) - 48)), (by first | rfl | (simp only [← hji6] <;> (simp))), H', ⟨by have := HK1.out; have := HJ9.out; have := HJ12.out; first | omega | exact Nat.le_refl _⟩, zz5⟩) | (exact ⟨_, (99), (by rfl), H', ⟨by have := HK1.out; have := HJ9.out; have := HJ12.out; omega⟩, zz5⟩)
            case rest =>
             clear HC15
             obtain ⟨kq, x11_14, rfl, HA, HJ14, ⟨mc14, rfl⟩⟩ := hcut
             cases kq with
             | zero => exact absurd HA.out (by simp [R1_number.j3])
             | succ kj14 =>
              have H := HA.out
              clear HA
              simp only [R1_number.j3] at H
              have HC17 := Aside0.mk H
              clear H
              go_upto_region 13 with (fail)
              go_cut [49] (fun v49 wc => ∃ (kq : Nat) (x49_16 : Bool), v49 = .bool x49_16 ∧ Aside0 (R1_number.j4 kq a0 a1 a2 x8_1 x9_1 (wrap64 (bt a0 (ji6))) x11_14 x49_16 = some (r1, r2)) ∧ Aside0 (kq ≤ kj14) ∧ Drawn0 w wc)
              case first =>
               have H := HC17.out
               clear HC17
               revert H; refine X.ite_d (c := 97 ≤ (wrap64 (bt a0 (ji6)))) (fun c18b0 H => ?_) (fun c18b0 H => ?_)
               rotate_left
               rotate_left
               all_goals
                have H' := Aside0.mk H
                clear H
                go_wp2
                go_meet
                case rel => first | (exact ⟨_, (decide ((wrap64 (bt a0 (ji6))) ≤ 102)), (by first | rfl | (simp only [← hji6] <;> (simp))), H', ⟨by have := HK1.out; have := HJ9.out; have := HJ12.out; have := HJ14.out; first | omega | exact Nat.le_refl _⟩, zz5⟩) | (exact ⟨_, (false), (by rfl), H', ⟨by have := HK1.out; have := HJ9.out; have := HJ12.out; have := HJ14.out; omega⟩, zz5⟩)
              case rest =>
               clear HC17
               obtain ⟨kq, x49_16, rfl, HA, HJ16, ⟨mc16, rfl⟩⟩ := hcut
               cases kq with
               | zero => exact absurd HA.out (by simp [R1_number.j4])
               | succ kj16 =>
                have H := HA.out
                clear HA
                simp only [R1_number.j4] at H
                have HC19 := Aside0.mk H
                clear H
                go_upto_if 49 with (fail)
                go_cut [11] (fun v11 wc => ∃ (kq : Nat) (x11_18 : Int), v11 = .int .i64 x11_18 ∧ Aside0 (R1_number.j5 kq a0 a1 a2 x8_1 x9_1 (wrap64 (bt a0 (ji6))) x11_18 = some (r1, r2)) ∧ Aside0 (kq ≤ kj16) ∧ Drawn0 w wc)
                case first =>
                 have H := HC19.out
                 clear HC19
                 by_cases c20 : x49_16 = true
                 subst c20
                 rw [if_pos rfl] at H
                 rotate_left
                 replace c20 := Bool.eq_false_iff.mpr c20
                 subst c20
                 rw [if_neg (show ¬ (false = true) by decide)] at H
                 rotate_left
                 all_goals
                  have H' := Aside0.mk H
                  clear H
                  go_wp2
                  go_meet
                  case rel => first | (exact ⟨_, (wrap64 ((wrap64 ((wrap64 (bt a0 (ji6))) - 97)) + 10)), (by first | rfl | (simp only [← hji6] <;> (simp))), H', ⟨by have := HK1.out; have := HJ9.out; have := HJ12.out; have := HJ14.out; have := HJ16.out; first | omega | exact Nat.le_refl _⟩, zz5⟩) | (exact ⟨_, (x11_14), (by rfl), H', ⟨by have := HK1.out; have := HJ9.out; have := HJ12.out; have := HJ14.out; have := HJ16.out; omega⟩, zz5⟩)
                case rest =>
                 clear HC19
                 obtain ⟨kq, x11_18, rfl, HA, HJ18, ⟨mc18, rfl⟩⟩ := hcut
                 cases kq with
                 | zero => exact absurd HA.out (by simp [R1_number.j5])
                 | succ kj18 =>
                  have H := HA.out
                  clear HA
                  simp only [R1_number.j5] at H
                  have HC21 := Aside0.mk H
                  clear H
                  go_upto_region 15 with (fail)
                  go_cut [58] (fun v58 wc => ∃ (kq : Nat) (x58_20 : Bool), v58 = .bool x58_20 ∧ Aside0 (R1_number.j6 kq a0 a1 a2 x8_1 x9_1 (wrap64 (bt a0 (ji6))) x11_18 x58_20 = some (r1, r2)) ∧ Aside0 (kq ≤ kj18) ∧ Drawn0 w wc)
                  case first =>
                   have H := HC21.out
                   clear HC21
                   revert H; refine X.ite_d (c := 65 ≤ (wrap64 (bt a0 (ji6)))) (fun c22b0 H => ?_) (fun c22b0 H => ?_)
                   rotate_left
                   rotate_left
                   all_goals
                    have H' := Aside0.mk H
                    clear H
                    go_wp2
                    go_meet
                    case rel => first | (exact ⟨_, (decide ((wrap64 (bt a0 (ji6))) ≤ 70)), (by first | rfl | (simp only [← hji6] <;> (simp))), H', ⟨by have := HK1.out; have := HJ9.out; have := HJ12.out; have := HJ14.out; have := HJ16.out; have := HJ18.out; first | omega | exact Nat.le_refl _⟩, zz5⟩) | (exact ⟨_, (false), (by rfl), H', ⟨by have := HK1.out; have := HJ9.out; have := HJ12.out; have := HJ14.out; have := HJ16.out; have := HJ18.out; omega⟩, zz5⟩)
                  case rest =>
                   clear HC21
                   obtain ⟨kq, x58_20, rfl, HA, HJ20, ⟨mc20, rfl⟩⟩ := hcut
                   cases kq with
                   | zero => exact absurd HA.out (by simp [R1_number.j6])
                   | succ kj20 =>
                    have H := HA.out
                    clear HA
                    simp only [R1_number.j6] at H
                    by_cases c23 : x58_20 = true
                    subst c23
                    rw [if_pos rfl] at H
                    revert H; refine X.ite_d (c := a2 ≤ (wrap64 ((wrap64 ((wrap64 (bt a0 (ji6))) - 65)) + 10))) (fun c24b0 H => ?_) (fun c24b0 H => ?_)
                    rotate_left
                    rotate_left
                    replace c23 := Bool.eq_false_iff.mpr c23
                    subst c23
                    rw [if_neg (show ¬ (false = true) by decide)] at H
                    revert H; refine X.ite_d (c := a2 ≤ x11_18) (fun c25b0 H => ?_) (fun c25b0 H => ?_)
                    rotate_left
                    rotate_left
                    all_goals first
                    | (simp only [Option.some.injEq, Prod.mk.injEq] at H
                       obtain ⟨rfl, rfl⟩ := H
                       go_wp2
                       go_ret2
                       exact ⟨by rfl, zz5⟩)
                    | (have H' := Aside0.mk H
                       clear H
                       go_wp2
                       go_roundg kj20
                       case measure => have := HK1.out; have := HJ9.out; have := HJ12.out; have := HJ14.out; have := HJ16.out; have := HJ18.out; have := HJ20.out; omega
                       case rel => first | (exact ⟨(wrap64 ((wrap64 (x8_1 * a2)) + (wrap64 ((wrap64 ((wrap64 (bt a0 (ji6))) - 65)) + 10)))), (wrap64 (x9_1 + 1)), (by rfl), (by rfl), H', ⟨by have := HK1.out; have := HJ9.out; have := HJ12.out; have := HJ14.out; have := HJ16.out; have := HJ18.out; have := HJ20.out; omega⟩, zz5⟩) | (exact ⟨(wrap64 ((wrap64 (x8_1 * a2)) + x11_18)), (wrap64 (x9_1 + 1)), (by rfl), (by rfl), H', ⟨by have := HK1.out; have := HJ9.out; have := HJ12.out; have := HJ14.out; have := HJ16.out; have := HJ18.out; have := HJ20.out; omega⟩, zz5⟩))
      ·rw [if_neg c8] at H
       exact absurd H (by simp)
     ·rw [if_neg c7] at H
      exact absurd H (by simp)
   ·rw [if_neg c4] at H
    have c4b0 : decide (x9_1 ≤ 8) = false := decide_eq_false c4
    clear c4
    simp only [Option.some.injEq, Prod.mk.injEq] at H
    obtain ⟨rfl, rfl⟩ := H
    go_wp2
    go_ret2
    exact ⟨by rfl, zz5⟩
def R1_Allowed.f (a0 : Int) : Option (Bool) := if a0 = 9 then (some true) else (if a0 = 10 then (some true) else (if a0 = 13 then (some true) else (if a0 ≥ 32 then (if a0 ≤ 55295 then (some true) else (if a0 ≥ 57344 then (if a0 ≤ 65533 then (some true) else (if a0 ≥ 65536 then (some (decide (a0 ≤ 1114111))) else (some false))) else (if a0 ≥ 65536 then (some (decide (a0 ≤ 1114111))) else (some false)))) else (if a0 ≥ 57344 then (if a0 ≤ 65533 then (some true) else (if a0 ≥ 65536 then (some (decide (a0 ≤ 1114111))) else (some false))) else (if a0 ≥ 65536 then (some (decide (a0 ≤ 1114111))) else (some false))))))
set_option maxHeartbeats 8000000 in
set_option maxRecDepth 100000 in
theorem R1_Allowed.calls (a0 : Int) (r : Bool) (w : World) (h : R1_Allowed.f a0 = some r) :
 Calls Tryz.prog 92 #[.int .i64 a0] w fun e w' => e = .returned (.bool r) ∧ Drawn0 w w' := by
 have H : (if a0 = 9 then (some true) else (if a0 = 10 then (some true) else (if a0 = 13 then (some true) else (if a0 ≥ 32 then (if a0 ≤ 55295 then (some true) else (if a0 ≥ 57344 then (if a0 ≤ 65533 then (some true) else (if a0 ≥ 65536 then (some (decide (a0 ≤ 1114111))) else (some false))) else (if a0 ≥ 65536 then (some (decide (a0 ≤ 1114111))) else (some false)))) else (if a0 ≥ 57344 then (if a0 ≤ 65533 then (some true) else (if a0 ≥ 65536 then (some (decide (a0 ≤ 1114111))) else (some false))) else (if a0 ≥ 65536 then (some (decide (a0 ≤ 1114111))) else (some false))))))) = some r := h
 clear h
 revert H; refine X.ite_b (fun c2b0 c2b1 H => ?_) (fun c2b0 c2b1 H => ?_)
 rotate_left
 revert H; refine X.ite_b (fun c3b0 c3b1 H => ?_) (fun c3b0 c3b1 H => ?_)
 rotate_left
 revert H; refine X.ite_b (fun c4b0 c4b1 H => ?_) (fun c4b0 c4b1 H => ?_)
 rotate_left
 revert H; refine X.ite_d (c := 32 ≤ a0) (fun c5b0 H => ?_) (fun c5b0 H => ?_)
 revert H; refine X.ite_d (fun c6b0 H => ?_) (fun c6b0 H => ?_)
 rotate_left
 revert H; refine X.ite_d (c := 57344 ≤ a0) (fun c7b0 H => ?_) (fun c7b0 H => ?_)
 revert H; refine X.ite_d (fun c8b0 H => ?_) (fun c8b0 H => ?_)
 rotate_left
 revert H; refine X.ite_d (c := 65536 ≤ a0) (fun c9b0 H => ?_) (fun c9b0 H => ?_)
 rotate_left
 rotate_left
 revert H; refine X.ite_d (c := 65536 ≤ a0) (fun c10b0 H => ?_) (fun c10b0 H => ?_)
 rotate_left
 rotate_left
 revert H; refine X.ite_d (c := 57344 ≤ a0) (fun c11b0 H => ?_) (fun c11b0 H => ?_)
 revert H; refine X.ite_d (fun c12b0 H => ?_) (fun c12b0 H => ?_)
 rotate_left
 revert H; refine X.ite_d (c := 65536 ≤ a0) (fun c13b0 H => ?_) (fun c13b0 H => ?_)
 rotate_left
 rotate_left
 revert H; refine X.ite_d (c := 65536 ≤ a0) (fun c14b0 H => ?_) (fun c14b0 H => ?_)
 rotate_left
 ·obtain rfl := Option.some.inj H
  go_enter Tryz.func92, Tryz.ntmps92
  go_wp2
  go_ret
  exact zz34
 all_goals
  obtain rfl := Option.some.inj H
  go_enter Tryz.func92, Tryz.ntmps92
  go_wp2
  go_ret
  exact zz34
def R1_point.f (a0 : Int) : Option (Bool) := if a0 ≥ 0 then (if a0 ≤ 1114111 then (if a0 < 55296 then (some true) else (some (decide (a0 > 57343)))) else (some false)) else (some false)
set_option maxHeartbeats 8000000 in
set_option maxRecDepth 100000 in
theorem R1_point.calls (a0 : Int) (r : Bool) (w : World) (h : R1_point.f a0 = some r) :
 Calls Tryz.prog 136 #[.int .i64 a0] w fun e w' => e = .returned (.bool r) ∧ Drawn0 w w' := by
 have H : (if a0 ≥ 0 then (if a0 ≤ 1114111 then (if a0 < 55296 then (some true) else (some (decide (a0 > 57343)))) else (some false)) else (some false)) = some r := h
 clear h
 revert H; refine X.ite_d (c := 0 ≤ a0) (fun c2b0 H => ?_) (fun c2b0 H => ?_)
 revert H; refine X.ite_d (fun c3b0 H => ?_) (fun c3b0 H => ?_)
 revert H; refine X.ite_d (fun c4b0 H => ?_) (fun c4b0 H => ?_)
 rotate_left
 rotate_left
 rotate_left
 ·obtain rfl := Option.some.inj H
  go_enter Tryz.func136, Tryz.ntmps136
  go_wp2
  go_ret
  exact zz34
 all_goals
  obtain rfl := Option.some.inj H
  go_enter Tryz.func136, Tryz.ntmps136
  go_wp2
  go_ret
  exact zz34
def R1_Encode.f (a0 : Int) : Option (ByteArray) := (R1_point.f a0).bind fun t101 => (if t101 = true then (if a0 ≤ 127 then (some (strOfNums (([(a0) % 256] : List Int)))) else (if a0 ≤ 2047 then (some (strOfNums (([(wrap64 (192 + (wrap64 (Int.tdiv a0 64)))) % 256, (wrap64 (128 + (Int.tmod a0 64))) % 256] : List Int)))) else (if a0 ≤ 65535 then (some (strOfNums (([(wrap64 (224 + (wrap64 (Int.tdiv a0 4096)))) % 256, (wrap64 (128 + (wrap64 (Int.tdiv (Int.tmod a0 4096) 64)))) % 256, (wrap64 (128 + (Int.tmod a0 64))) % 256] : List Int)))) else (some (strOfNums (([(wrap64 (240 + (wrap64 (Int.tdiv a0 262144)))) % 256, (wrap64 (128 + (wrap64 (Int.tdiv (Int.tmod a0 262144) 4096)))) % 256, (wrap64 (128 + (wrap64 (Int.tdiv (Int.tmod a0 4096) 64)))) % 256, (wrap64 (128 + (Int.tmod a0 64))) % 256] : List Int))))))) else (some (⟨#[]⟩ : ByteArray)))
set_option maxHeartbeats 8000000 in
set_option maxRecDepth 100000 in
theorem R1_Encode.calls (a0 : Int) (r : ByteArray) (w : World) (h : R1_Encode.f a0 = some r) :
 Calls Tryz.prog 116 #[.int .i64 a0] w fun e w' => e = .returned (.string r) ∧ Below w.heap.size w w' := by
 have HB := Aside0.mk (Below.refl w.heap.size w)
 have H : ((R1_point.f a0).bind fun t101 => (if t101 = true then (if a0 ≤ 127 then (some (strOfNums (([(a0) % 256] : List Int)))) else (if a0 ≤ 2047 then (some (strOfNums (([(wrap64 (192 + (wrap64 (Int.tdiv a0 64)))) % 256, (wrap64 (128 + (Int.tmod a0 64))) % 256] : List Int)))) else (if a0 ≤ 65535 then (some (strOfNums (([(wrap64 (224 + (wrap64 (Int.tdiv a0 4096)))) % 256, (wrap64 (128 + (wrap64 (Int.tdiv (Int.tmod a0 4096) 64)))) % 256, (wrap64 (128 + (Int.tmod a0 64))) % 256] : List Int)))) else (some (strOfNums (([(wrap64 (240 + (wrap64 (Int.tdiv a0 262144)))) % 256, (wrap64 (128 + (wrap64 (Int.tdiv (Int.tmod a0 262144) 4096)))) % 256, (wrap64 (128 + (wrap64 (Int.tdiv (Int.tmod a0 4096) 64)))) % 256, (wrap64 (128 + (Int.tmod a0 64))) % 256] : List Int))))))) else (some (⟨#[]⟩ : ByteArray)))) = some r := h
 clear h
 replace H := Option.bind_eq_some_iff.mp H
 obtain ⟨t101, A20, H⟩ := H
 have A2 := Aside0.mk A20
 clear A20
 by_cases c3 : t101 = true
 subst c3
 rw [if_pos rfl] at H
 revert H; refine X.ite_d (fun c4b0 H => ?_) (fun c4b0 H => ?_)
 obtain ⟨y102, hy102⟩ : ∃ y_ : List Int, y_ = (([(a0) % 256] : List Int)) := ⟨_, rfl⟩
 replace H : (some (strOfNums y102)) = some r := by ((rw [hy102]; with_reducible exact H))
 have Ny102 := Aside0.mk hy102
 clear hy102
 rotate_left
 revert H; refine X.ite_d (fun c8b0 H => ?_) (fun c8b0 H => ?_)
 obtain ⟨y105, hy105⟩ : ∃ y_ : List Int, y_ = (([(wrap64 (192 + (wrap64 (Int.tdiv a0 64)))) % 256, (wrap64 (128 + (Int.tmod a0 64))) % 256] : List Int)) := ⟨_, rfl⟩
 replace H : (some (strOfNums y105)) = some r := by ((rw [hy105]; with_reducible exact H))
 have Ny105 := Aside0.mk hy105
 clear hy105
 rotate_left
 revert H; refine X.ite_d (fun c12b0 H => ?_) (fun c12b0 H => ?_)
 obtain ⟨y108, hy108⟩ : ∃ y_ : List Int, y_ = (([(wrap64 (224 + (wrap64 (Int.tdiv a0 4096)))) % 256, (wrap64 (128 + (wrap64 (Int.tdiv (Int.tmod a0 4096) 64)))) % 256, (wrap64 (128 + (Int.tmod a0 64))) % 256] : List Int)) := ⟨_, rfl⟩
 replace H : (some (strOfNums y108)) = some r := by ((rw [hy108]; with_reducible exact H))
 have Ny108 := Aside0.mk hy108
 clear hy108
 rotate_left
 obtain ⟨y111, hy111⟩ : ∃ y_ : List Int, y_ = (([(wrap64 (240 + (wrap64 (Int.tdiv a0 262144)))) % 256, (wrap64 (128 + (wrap64 (Int.tdiv (Int.tmod a0 262144) 4096)))) % 256, (wrap64 (128 + (wrap64 (Int.tdiv (Int.tmod a0 4096) 64)))) % 256, (wrap64 (128 + (Int.tmod a0 64))) % 256] : List Int)) := ⟨_, rfl⟩
 replace H : (some (strOfNums y111)) = some r := by ((rw [hy111]; with_reducible exact H))
 have Ny111 := Aside0.mk hy111
 clear hy111
 rotate_left
 ·replace c3 := Bool.eq_false_iff.mpr c3
  subst c3
  rw [if_neg (show ¬ (false = true) by decide)] at H
  obtain rfl := Option.some.inj H
  go_enter Tryz.func116, Tryz.ntmps116
  go_wp2_with ((((with_reducible refine gate_callee (f := 136) rfl ?_); refine goesL_ (some 5) rfl rfl Tryz.func136 (by kernel_rfl) rfl #[.int .i64 a0] rfl (zz12) ?_; (with_reducible refine (R1_point.calls a0 false _ A2.out).mono ?_); rintro e w' ⟨rfl, ⟨nd, rfl⟩⟩; refine ⟨_, rfl, ?_⟩)))
  go_ret
  exact ⟨by rfl, zz14⟩
 all_goals
  obtain rfl := Option.some.inj H
  go_enter Tryz.func116, Tryz.ntmps116
  go_wp2_with (first | ((with_reducible refine gate_callee (f := 136) rfl ?_); refine goesL_ (some 5) rfl rfl Tryz.func136 (by kernel_rfl) rfl #[.int .i64 a0] rfl (zz12) ?_; (with_reducible refine (R1_point.calls a0 true _ A2.out).mono ?_); rintro e w' ⟨rfl, ⟨nd, rfl⟩⟩; refine ⟨_, rfl, ?_⟩) | ((with_reducible refine gate_dst (N := 12) rfl ?_); refine Kd.R_lit (Kd.int .u8) _ 5 ?hg (N := 12) ?hd (xs := ([(a0) % 256] : List Int)) (inner := [.int .u8 ((a0) % 256)]) (ok := fun _ => True) (okp := fun _ => True) ?hr ?hp (fun _ hk => hk) trivial (Below.refl _ _) (Nat.le_refl _) (by simp) ?_; (case hd => rfl); (case hg => rfl); (case hr => ((go_simp; done))); (case hp => exact (Reps.one (show Kd.M (Kd.int .u8) _ _ _ ((a0) % 256) [.int .u8 ((a0) % 256)] from rfl) (Reps.none _ _))); intro vz1 wz1 hoz1 hb hg_ hnew_; clear hg_ hnew_; (rw [← Ny102.out] at hoz1); have n0_ := Aside0.mk (Kd.R_lower hoz1 (below_size (zz14))); have n1_ := Aside0.mk (below_step (zz14) hb); clear HB; have HOz1 := n0_; have HB := n1_; clear n0_ n1_; clear hb hoz1; have hcvz1 := own_string (P := Tryz.prog) Tryz.underlying63 Tryz.underlying5 Tryz.underlying9 (Kd.own_of_R HOz1.out)) | ((with_reducible refine gate_dst (N := 24) rfl ?_); refine Kd.R_lit (Kd.int .u8) _ 5 ?hg (N := 24) ?hd (xs := ([(wrap64 (192 + (wrap64 (Int.tdiv a0 64)))) % 256, (wrap64 (128 + (Int.tmod a0 64))) % 256] : List Int)) (inner := [.int .u8 ((wrap64 (192 + (wrap64 (Int.tdiv a0 64)))) % 256), .int .u8 ((wrap64 (128 + (Int.tmod a0 64))) % 256)]) (ok := fun _ => True) (okp := fun _ => True) ?hr ?hp (fun _ hk => hk) trivial (Below.refl _ _) (Nat.le_refl _) (by simp) ?_; (case hd => rfl); (case hg => rfl); (case hr => ((go_simp; done))); (case hp => exact (Reps.one (show Kd.M (Kd.int .u8) _ _ _ ((wrap64 (192 + (wrap64 (Int.tdiv a0 64)))) % 256) [.int .u8 ((wrap64 (192 + (wrap64 (Int.tdiv a0 64)))) % 256)] from rfl) (Reps.one (show Kd.M (Kd.int .u8) _ _ _ ((wrap64 (128 + (Int.tmod a0 64))) % 256) [.int .u8 ((wrap64 (128 + (Int.tmod a0 64))) % 256)] from rfl) (Reps.none _ _)))); intro vz1 wz1 hoz1 hb hg_ hnew_; clear hg_ hnew_; (rw [← Ny105.out] at hoz1); have n0_ := Aside0.mk (Kd.R_lower hoz1 (below_size (zz14))); have n1_ := Aside0.mk (below_step (zz14) hb); clear HB; have HOz1 := n0_; have HB := n1_; clear n0_ n1_; clear hb hoz1; have hcvz1 := own_string (P := Tryz.prog) Tryz.underlying63 Tryz.underlying5 Tryz.underlying9 (Kd.own_of_R HOz1.out)) | ((with_reducible refine gate_dst (N := 41) rfl ?_); refine Kd.R_lit (Kd.int .u8) _ 5 ?hg (N := 41) ?hd (xs := ([(wrap64 (224 + (wrap64 (Int.tdiv a0 4096)))) % 256, (wrap64 (128 + (wrap64 (Int.tdiv (Int.tmod a0 4096) 64)))) % 256, (wrap64 (128 + (Int.tmod a0 64))) % 256] : List Int)) (inner := [.int .u8 ((wrap64 (224 + (wrap64 (Int.tdiv a0 4096)))) % 256), .int .u8 ((wrap64 (128 + (wrap64 (Int.tdiv (Int.tmod a0 4096) 64)))) % 256), .int .u8 ((wrap64 (128 + (Int.tmod a0 64))) % 256)]) (ok := fun _ => True) (okp := fun _ => True) ?hr ?hp (fun _ hk => hk) trivial (Below.refl _ _) (Nat.le_refl _) (by simp) ?_; (case hd => rfl); (case hg => rfl); (case hr => ((go_simp; done))); (case hp => exact (Reps.one (show Kd.M (Kd.int .u8) _ _ _ ((wrap64 (224 + (wrap64 (Int.tdiv a0 4096)))) % 256) [.int .u8 ((wrap64 (224 + (wrap64 (Int.tdiv a0 4096)))) % 256)] from rfl) (Reps.one (show Kd.M (Kd.int .u8) _ _ _ ((wrap64 (128 + (wrap64 (Int.tdiv (Int.tmod a0 4096) 64)))) % 256) [.int .u8 ((wrap64 (128 + (wrap64 (Int.tdiv (Int.tmod a0 4096) 64)))) % 256)] from rfl) (Reps.one (show Kd.M (Kd.int .u8) _ _ _ ((wrap64 (128 + (Int.tmod a0 64))) % 256) [.int .u8 ((wrap64 (128 + (Int.tmod a0 64))) % 256)] from rfl) (Reps.none _ _))))); intro vz1 wz1 hoz1 hb hg_ hnew_; clear hg_ hnew_; (rw [← Ny108.out] at hoz1); have n0_ := Aside0.mk (Kd.R_lower hoz1 (below_size (zz14))); have n1_ := Aside0.mk (below_step (zz14) hb); clear HB; have HOz1 := n0_; have HB := n1_; clear n0_ n1_; clear hb hoz1; have hcvz1 := own_string (P := Tryz.prog) Tryz.underlying63 Tryz.underlying5 Tryz.underlying9 (Kd.own_of_R HOz1.out)) | ((with_reducible refine gate_dst (N := 61) rfl ?_); refine Kd.R_lit (Kd.int .u8) _ 5 ?hg (N := 61) ?hd (xs := ([(wrap64 (240 + (wrap64 (Int.tdiv a0 262144)))) % 256, (wrap64 (128 + (wrap64 (Int.tdiv (Int.tmod a0 262144) 4096)))) % 256, (wrap64 (128 + (wrap64 (Int.tdiv (Int.tmod a0 4096) 64)))) % 256, (wrap64 (128 + (Int.tmod a0 64))) % 256] : List Int)) (inner := [.int .u8 ((wrap64 (240 + (wrap64 (Int.tdiv a0 262144)))) % 256), .int .u8 ((wrap64 (128 + (wrap64 (Int.tdiv (Int.tmod a0 262144) 4096)))) % 256), .int .u8 ((wrap64 (128 + (wrap64 (Int.tdiv (Int.tmod a0 4096) 64)))) % 256), .int .u8 ((wrap64 (128 + (Int.tmod a0 64))) % 256)]) (ok := fun _ => True) (okp := fun _ => True) ?hr ?hp (fun _ hk => hk) trivial (Below.refl _ _) (Nat.le_refl _) (by simp) ?_; (case hd => rfl); (case hg => rfl); (case hr => ((go_simp; done))); (case hp => exact (Reps.one (show Kd.M (Kd.int .u8) _ _ _ ((wrap64 (240 + (wrap64 (Int.tdiv a0 262144)))) % 256) [.int .u8 ((wrap64 (240 + (wrap64 (Int.tdiv a0 262144)))) % 256)] from rfl) (Reps.one (show Kd.M (Kd.int .u8) _ _ _ ((wrap64 (128 + (wrap64 (Int.tdiv (Int.tmod a0 262144) 4096)))) % 256) [.int .u8 ((wrap64 (128 + (wrap64 (Int.tdiv (Int.tmod a0 262144) 4096)))) % 256)] from rfl) (Reps.one (show Kd.M (Kd.int .u8) _ _ _ ((wrap64 (128 + (wrap64 (Int.tdiv (Int.tmod a0 4096) 64)))) % 256) [.int .u8 ((wrap64 (128 + (wrap64 (Int.tdiv (Int.tmod a0 4096) 64)))) % 256)] from rfl) (Reps.one (show Kd.M (Kd.int .u8) _ _ _ ((wrap64 (128 + (Int.tmod a0 64))) % 256) [.int .u8 ((wrap64 (128 + (Int.tmod a0 64))) % 256)] from rfl) (Reps.none _ _)))))); intro vz1 wz1 hoz1 hb hg_ hnew_; clear hg_ hnew_; (rw [← Ny111.out] at hoz1); have n0_ := Aside0.mk (Kd.R_lower hoz1 (below_size (zz14))); have n1_ := Aside0.mk (below_step (zz14) hb); clear HB; have HOz1 := n0_; have HB := n1_; clear n0_ n1_; clear hb hoz1; have hcvz1 := own_string (P := Tryz.prog) Tryz.underlying63 Tryz.underlying5 Tryz.underlying9 (Kd.own_of_R HOz1.out)))
  go_ret
  exact ⟨by rfl, zz10⟩
end Go.Proofs.YtlhhhlimjajnlaaGreat.Q
end
