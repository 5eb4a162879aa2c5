/- Parts of the proof of canonSpoilt_holds, kept and merged by a program of mine (wip/tools/slim.py) out of my texts: StrG Q15 -/
import Derived.Test.YtlhhhlimjajnlaaGreatSSp0
import Derived.Sort.Walk0
import Derived.Test.YtlhhhlimjajnlaaGreatSSp4
import Derived.Test.YtlhhhlimjajnlaaGreatSSp20
section
set_option linter.unusedVariables false
set_option linter.unusedSimpArgs false
namespace Go.Proofs.YtlhhhlimjajnlaaGreat.X
open Go.RowKit
theorem less_flip (a b : List UInt8) : (!(Op.bytesLess a b || a == b)) = Op.bytesLess b a := by
 rw [Go.Proofs.bytesLess_eq, Go.Proofs.bytesLess_eq, Bool.eq_iff_iff]
 simp only [Bool.not_eq_true', Bool.or_eq_false_iff, decide_eq_false_iff_not, decide_eq_true_iff, beq_eq_false_iff_ne]
 constructor
 ·rintro ⟨h1, h2⟩
  exact Classical.byContradiction fun h => h2 (List.le_antisymm (List.not_lt.1 h) (List.not_lt.1 h1))
 ·intro h
  refine ⟨fun h' => List.lt_irrefl _ (List.lt_trans h h'), fun e => ?_⟩
  rw [e] at h; exact List.lt_irrefl _ h
theorem str_gtr (t : TypeId) (a b : ByteArray) : binOp .gtr t (.string a) (.string b) = pure (.bool (Op.bytesLess b.toList a.toList)) := by
 rw [← less_flip]; simp [binOp, Op.stringOp]
theorem str_geq (t : TypeId) (a b : ByteArray) : binOp .geq t (.string a) (.string b) = pure (.bool !(Op.bytesLess a.toList b.toList)) := by simp [binOp, Op.stringOp]
theorem str_leq (t : TypeId) (a b : ByteArray) : binOp .leq t (.string a) (.string b) = pure (.bool !(Op.bytesLess b.toList a.toList)) := by
 rw [← less_flip]; simp [binOp, Op.stringOp]
end Go.Proofs.YtlhhhlimjajnlaaGreat.X
end
section
namespace Go.Proofs.YtlhhhlimjajnlaaGreat.X
end Go.Proofs.YtlhhhlimjajnlaaGreat.X
namespace Go.Proofs.YtlhhhlimjajnlaaGreat.Q
open Go.RowKit Go.Proofs.YtlhhhlimjajnlaaGreatW.PrintWords Go.Proofs.YtlhhhlimjajnlaaGreatW.PrintLast Go.Proofs.YtlhhhlimjajnlaaGreatW.PrintMore
attribute [local go_sem] max2_int min2_int max_two min_two max_three min_three max_four min_four   
open Go.Proofs.YtlhhhlimjajnlaaGreat.X
attribute [local go_sem] str_gtr str_geq str_leq   
set_option linter.unusedVariables false
set_option linter.unusedSimpArgs false
mutual
def R3_texts.l0 : Nat → List (S51) → Int → ByteArray → Option (ByteArray × Int)
 | 0, _, _, _ => none
 | k + 1, x0, x1, x6 => if x1 < (x0.length : Int) then (if 0 ≤ x1 then (if ((rd_T51 x0 x1).f0) = 6 then (R3_texts.j1 k x0 x1 x6 true) else (R3_texts.j1 k x0 x1 x6 (((rd_T51 x0 x1).f0) == 7))) else (none)) else (R3_texts.j1 k x0 x1 x6 false)
def R3_texts.j1 : Nat → List (S51) → Int → ByteArray → Bool → Option (ByteArray × Int)
 | 0, _, _, _, _ => none
 | k + 1, x0, x1, x6, x26 => if x26 = true then (if 0 ≤ x1 then (if x1 < (x0.length : Int) then (if ((rd_T51 x0 x1).f0) = 6 then (if x6.size + ((rd_T51 x0 x1).f4).size ≤ 9223372036854775807 then (R3_texts.l0 k x0 (wrap64 (x1 + 1)) (x6 ++ ((rd_T51 x0 x1).f4))) else (none)) else (R3_texts.l0 k x0 (wrap64 (x1 + 1)) x6)) else (none)) else (none)) else (some (x6, x1))
end
def R3_texts.f (k : Nat) (l0 : List (S51)) (a1 : Int) : Option (ByteArray × Int) := R3_texts.l0 k l0 a1 (⟨#[]⟩ : ByteArray)
set_option maxHeartbeats 8000000 in
set_option maxRecDepth 100000 in
theorem R3_texts.calls (k : Nat) (A0 : Option Addr) (c0 : Nat) (l0 : List (S51)) (a1 : Int) (r1 : ByteArray) (r2 : Int) (w : World) (hr0 : Kd.C k51 w A0 l0.length l0) (hc0 : l0.length ≤ c0) (h : R3_texts.f k l0 a1 = some (r1, r2)) :
 Calls Tryz.prog 33 #[.slice A0 l0.length c0, .int .i64 a1] w fun e w' => e = .returned (.tuple #[.string r1, .int .i64 r2]) ∧ Drawn0 w w' := by
 have HR0 := Aside0.mk hr0
 have HC0 := Aside0.mk hc0
 clear hr0 hc0
 have H : (R3_texts.l0 k l0 a1 (⟨#[]⟩ : ByteArray)) = some (r1, r2) := h
 clear h
 have H' := Aside0.mk H
 clear H
 go_enter Tryz.func33, Tryz.ntmps33
 go_wp2
 go_loopg [1, 6] k (fun kq v1 v6 w' => ∃ (x1_1 : Int) (x6_1 : ByteArray), v1 = .int .i64 x1_1 ∧ v6 = .string x6_1 ∧ Aside0 (R3_texts.l0 kq l0 x1_1 x6_1 = some (r1, r2)) ∧ Aside0 (kq ≤ k) ∧ Drawn0 w w')
 case atStart => exact ⟨(a1), ((⟨#[]⟩ : ByteArray)), (by rfl), (by rfl), H', ⟨Nat.le_refl _⟩, by repeat (exact Drawn0.refl _)⟩
 case round =>
  clear H'
  obtain ⟨x1_1, x6_1, rfl, rfl, HA, HK1, ⟨m1, rfl⟩⟩ := hrel
  cases gk with
  | zero => exact absurd HA.out (by simp [R3_texts.l0])
  | succ k1 =>
   have H := HA.out
   clear HA
   simp only [R3_texts.l0] at H
   have HC3 := Aside0.mk H
   clear H
   go_upto_region 2 with (fail)
   go_cut [26] (fun v26 wc => ∃ (kq : Nat) (x26_2 : Bool), v26 = .bool x26_2 ∧ Aside0 (R3_texts.j1 kq l0 x1_1 x6_1 x26_2 = some (r1, r2)) ∧ Aside0 (kq ≤ k1) ∧ Drawn0 w wc)
   case first =>
    have H := HC3.out
    clear HC3
    by_cases c4 : x1_1 < (l0.length : Int)
    ·rw [if_pos c4] at H
     have c4b0 : decide (x1_1 < (l0.length : Int)) = true := decide_eq_true c4
     clear c4
     by_cases c5 : 0 ≤ x1_1
     ·rw [if_pos c5] at H
      have c5b0 : decide (0 ≤ x1_1) = true := decide_eq_true c5
      clear c5
      by_cases c6 : ((rd_T51 l0 x1_1).f0) = 6
      ·rw [if_pos c6] at H
       have c6b0 : (((rd_T51 l0 x1_1).f0) == 6) = true := beq_iff_eq.mpr c6
       have c6b1 : (((rd_T51 l0 x1_1).f0) != 6) = false := bne_eq_false_iff_eq.mpr c6
       clear c6
       have H' := Aside0.mk H
       clear H
       have p253 : 0 ≤ (x1_1 : Int) := of_decide_eq_true (zz13)
       have q253 : x1_1 < (l0.length : Int) := of_decide_eq_true (zz13)
       obtain ⟨ad253, e253, hx253_0, hx253_1, hx253_2, hx253_3, hx253_4⟩ := at_T51 HR0.out x1_1 p253 q253
       cases e253
       replace p253 := eq_true p253
       replace q253 := eq_true q253
       go_wp2
       go_meet
       case rel => exact ⟨_, (true), (by rfl), H', ⟨zz36⟩, zz1⟩
      ·rw [if_neg c6] at H
       have c6b0 : (((rd_T51 l0 x1_1).f0) == 6) = false := beq_eq_false_iff_ne.mpr c6
       have c6b1 : (((rd_T51 l0 x1_1).f0) != 6) = true := bne_iff_ne.mpr c6
       have H' := Aside0.mk H
       clear H
       have p253 : 0 ≤ (x1_1 : Int) := of_decide_eq_true (zz13)
       have q253 : x1_1 < (l0.length : Int) := of_decide_eq_true (zz13)
       obtain ⟨ad253, e253, hx253_0, hx253_1, hx253_2, hx253_3, hx253_4⟩ := at_T51 HR0.out x1_1 p253 q253
       cases e253
       replace p253 := eq_true p253
       replace q253 := eq_true q253
       have p254 : 0 ≤ (x1_1 : Int) := of_decide_eq_true (zz13)
       have q254 : x1_1 < (l0.length : Int) := of_decide_eq_true (zz13)
       obtain ⟨ad254, e254, hx254_0, hx254_1, hx254_2, hx254_3, hx254_4⟩ := at_T51 HR0.out x1_1 p254 q254
       obtain rfl : ad253 = ad254 := (by injection e254)
       replace p254 := eq_true p254
       replace q254 := eq_true q254
       go_wp2
       go_meet
       case rel => exact ⟨_, ((((rd_T51 l0 x1_1).f0) == 7)), (by rfl), H', ⟨zz36⟩, zz1⟩
     ·rw [if_neg c5] at H
      exact absurd H (by simp)
    ·rw [if_neg c4] at H
     have c4b0 : decide (x1_1 < (l0.length : Int)) = false := decide_eq_false c4
     clear c4
     have H' := Aside0.mk H
     clear H
     go_wp2
     go_meet
     case rel => exact ⟨_, (false), (by rfl), H', ⟨zz36⟩, zz1⟩
   case rest =>
    clear HC3
    obtain ⟨kq, x26_2, rfl, HA, HJ2, ⟨mc2, rfl⟩⟩ := hcut
    cases kq with
    | zero => exact absurd HA.out (by simp [R3_texts.j1])
    | succ kj2 =>
     have H := HA.out
     clear HA
     simp only [R3_texts.j1] at H
     by_cases c7 : x26_2 = true
     ·subst c7
      rw [if_pos rfl] at H
      by_cases c8 : 0 ≤ x1_1
      ·rw [if_pos c8] at H
       have c8b0 : decide (0 ≤ x1_1) = true := decide_eq_true c8
       clear c8
       by_cases c9 : x1_1 < (l0.length : Int)
       ·rw [if_pos c9] at H
        have c9b0 : decide (x1_1 < (l0.length : Int)) = true := decide_eq_true c9
        clear c9
        by_cases c10 : ((rd_T51 l0 x1_1).f0) = 6
        ·rw [if_pos c10] at H
         have c10b0 : (((rd_T51 l0 x1_1).f0) == 6) = true := beq_iff_eq.mpr c10
         have c10b1 : (((rd_T51 l0 x1_1).f0) != 6) = false := bne_eq_false_iff_eq.mpr c10
         clear c10
         by_cases c11 : x6_1.size + ((rd_T51 l0 x1_1).f4).size ≤ 9223372036854775807
         ·rw [if_pos c11] at H
          have c11b0 := eq_true c11
          have c11b1 : decide (x6_1.size + ((rd_T51 l0 x1_1).f4).size ≤ 9223372036854775807) = true := decide_eq_true c11
          have c11b2 : (9223372036854775807 < x6_1.size + ((rd_T51 l0 x1_1).f4).size) = False := eq_false (Nat.not_lt.2 c11)
          have H' := Aside0.mk H
          clear H
          have p255 : 0 ≤ (x1_1 : Int) := of_decide_eq_true (zz13)
          have q255 : x1_1 < (l0.length : Int) := of_decide_eq_true (zz13)
          obtain ⟨ad255, e255, hx255_0, hx255_1, hx255_2, hx255_3, hx255_4⟩ := at_T51 HR0.out x1_1 p255 q255
          cases e255
          replace p255 := eq_true p255
          replace q255 := eq_true q255
          have p256 : 0 ≤ (x1_1 : Int) := of_decide_eq_true (zz13)
          have q256 : x1_1 < (l0.length : Int) := of_decide_eq_true (zz13)
          obtain ⟨ad256, e256, hx256_0, hx256_1, hx256_2, hx256_3, hx256_4⟩ := at_T51 HR0.out x1_1 p256 q256
          obtain rfl : ad255 = ad256 := (by injection e256)
          replace p256 := eq_true p256
          replace q256 := eq_true q256
          go_wp2
          go_roundg kj2
          case measure => have := HK1.out; have := HJ2.out; omega
          case rel => exact ⟨(wrap64 (x1_1 + 1)), (x6_1 ++ ((rd_T51 l0 x1_1).f4)), (by rfl), (by rfl), H', ⟨by have := HK1.out; have := HJ2.out; omega⟩, zz1⟩
         ·rw [if_neg c11] at H
          exact absurd H (by simp)
        ·rw [if_neg c10] at H
         have c10b0 : (((rd_T51 l0 x1_1).f0) == 6) = false := beq_eq_false_iff_ne.mpr c10
         have c10b1 : (((rd_T51 l0 x1_1).f0) != 6) = true := bne_iff_ne.mpr c10
         have H' := Aside0.mk H
         clear H
         have p255 : 0 ≤ (x1_1 : Int) := of_decide_eq_true (zz13)
         have q255 : x1_1 < (l0.length : Int) := of_decide_eq_true (zz13)
         obtain ⟨ad255, e255, hx255_0, hx255_1, hx255_2, hx255_3, hx255_4⟩ := at_T51 HR0.out x1_1 p255 q255
         cases e255
         replace p255 := eq_true p255
         replace q255 := eq_true q255
         go_wp2
         go_roundg kj2
         case measure => have := HK1.out; have := HJ2.out; omega
         case rel => exact ⟨(wrap64 (x1_1 + 1)), (x6_1), (by rfl), (by rfl), H', ⟨by have := HK1.out; have := HJ2.out; omega⟩, zz1⟩
       ·rw [if_neg c9] at H
        exact absurd H (by simp)
      ·rw [if_neg c8] at H
       exact absurd H (by simp)
     ·replace c7 := Bool.eq_false_iff.mpr c7
      subst c7
      rw [if_neg (show ¬ (false = true) by decide)] at H
      simp only [Option.some.injEq, Prod.mk.injEq] at H
      obtain ⟨rfl, rfl⟩ := H
      go_wp2
      go_ret2
      exact ⟨by rfl, zz1⟩
def R3_spaces.f (k : Nat) (a0 : ByteArray) : Option (Bool) := (R1_Skip.f k a0 0).bind fun t257 => (some (t257 == (a0.size : Int)))
set_option maxHeartbeats 8000000 in
set_option maxRecDepth 100000 in
theorem R3_spaces.calls (k : Nat) (a0 : ByteArray) (r : Bool) (w : World) (h : R3_spaces.f k a0 = some r) :
 Calls Tryz.prog 34 #[.string a0] w fun e w' => e = .returned (.bool r) ∧ Drawn0 w w' := by
 have H : ((R1_Skip.f k a0 0).bind fun t257 => (some (t257 == (a0.size : Int)))) = some r := h
 clear h
 replace H := Option.bind_eq_some_iff.mp H
 obtain ⟨t257, A20, H⟩ := H
 have A2 := Aside0.mk A20
 clear A20
 obtain rfl := Option.some.inj H
 go_enter Tryz.func34, Tryz.ntmps34
 go_wp2_with ((((with_reducible refine gate_callee (f := 67) rfl ?_); refine goesL_ (some 4) rfl rfl Tryz.func67 (by kernel_rfl) rfl #[.string a0, .int .i64 0] rfl (zz3) ?_; (with_reducible refine (R1_Skip.calls k a0 0 t257 _ A2.out).mono ?_); rintro e w' ⟨rfl, ⟨nd, rfl⟩⟩; refine ⟨_, rfl, ?_⟩)))
 go_ret
 exact ⟨by rfl, zz1⟩
mutual
def R3_element.j0 : Nat → List (S51) → Int → Int → List (S104) → Int → Bool → Option ((List (S104)) × Int × Bool)
 | 0, _, _, _, _, _, _ => none
 | k + 1, x0, x1, x2, x3, x4, x36 => if x36 = true then (some (x3, x1, false)) else (if 0 ≤ x1 then (if x1 < (x0.length : Int) then (if x3.length < 2513169434916 then (R3_element.l0 k x0 (wrap64 (x1 + 1)) (x3 ++ [(⟨(⟨1, 0, x2, (⟨#[]⟩ : ByteArray)⟩ : S41), (rd_T51 x0 x1).f3⟩ : S104)]) x4 (x3.length : Int) ((rd_T51 x0 x1).f3)) else (none)) else (none)) else (none))
def R3_element.l0 : Nat → List (S51) → Int → List (S104) → Int → Int → ByteArray → Option ((List (S104)) × Int × Bool)
 | 0, _, _, _, _, _, _ => none
 | k + 1, x0, x1, x3, x4, x13, x14 => if x1 < (x0.length : Int) then (if 0 ≤ x1 then (R3_element.j2 k x0 x1 x3 x4 x13 x14 (((rd_T51 x0 x1).f0) == 2)) else (none)) else (R3_element.j2 k x0 x1 x3 x4 x13 x14 false)
def R3_element.j2 : Nat → List (S51) → Int → List (S104) → Int → Int → ByteArray → Bool → Option ((List (S104)) × Int × Bool)
 | 0, _, _, _, _, _, _, _ => none
 | k + 1, x0, x1, x3, x4, x13, x14, x66 => if x66 = true then (R3_element.l1 k x0 x1 x3 x4 x13 x14 (wrap64 (x13 + 1))) else (if x1 ≥ (x0.length : Int) then (some (x3, x1, false)) else (if 0 ≤ x1 then (if x1 < (x0.length : Int) then (if ((rd_T51 x0 x1).f0) = 4 then (some (x3, wrap64 (x1 + 1), true)) else (R3_element.l2 k x0 (wrap64 (x1 + 1)) x3 x4 x13 x14)) else (none)) else (none)))
def R3_element.l1 : Nat → List (S51) → Int → List (S104) → Int → Int → ByteArray → Int → Option ((List (S104)) × Int × Bool)
 | 0, _, _, _, _, _, _, _ => none
 | k + 1, x0, x1, x3, x4, x13, x14, x15 => if x15 < (x3.length : Int) then (if 0 ≤ x15 then (if 0 ≤ x1 then (if x1 < (x0.length : Int) then (if ((rd_T104 x3 x15).f1).toList = ((rd_T51 x0 x1).f3).toList then (some (x3, x1, false)) else (R3_element.l1 k x0 x1 x3 x4 x13 x14 (wrap64 (x15 + 1)))) else (none)) else (none)) else (none)) else (if 0 ≤ x1 then (if x1 < (x0.length : Int) then (if x3.length < 2513169434916 then (R3_element.l0 k x0 (wrap64 (x1 + 1)) (x3 ++ [(⟨(⟨2, 0, x13, (rd_T51 x0 x1).f4⟩ : S41), (rd_T51 x0 x1).f3⟩ : S104)]) x4 x13 x14) else (none)) else (none)) else (none))
def R3_element.l2 : Nat → List (S51) → Int → List (S104) → Int → Int → ByteArray → Option ((List (S104)) × Int × Bool)
 | 0, _, _, _, _, _, _ => none
 | k + 1, x0, x1, x3, x4, x13, x14 => (R3_texts.f k x0 x1).bind fun bt272 => (if bt272.1.toList = ([] : List UInt8) then (R3_element.j5 k x0 x3 x4 x13 x14 bt272.2) else (if x3.length < 2513169434916 then (R3_element.j5 k x0 (x3 ++ [(⟨(⟨3, (-1), x13, bt272.1⟩ : S41), (⟨#[]⟩ : ByteArray)⟩ : S104)]) x4 x13 x14 bt272.2) else (none)))
def R3_element.j5 : Nat → List (S51) → List (S104) → Int → Int → ByteArray → Int → Option ((List (S104)) × Int × Bool)
 | 0, _, _, _, _, _, _ => none
 | k + 1, x0, x3, x4, x13, x14, x17 => if x17 ≥ (x0.length : Int) then (some (x3, x17, false)) else (if 0 ≤ x17 then (if x17 < (x0.length : Int) then (if ((rd_T51 x0 x17).f0) = 5 then (some (x3, wrap64 (x17 + 1), (((rd_T51 x0 x17).f3).toList == x14.toList))) else ((R3_element.f k x0 x17 x13 x3 (wrap64 (x4 + 1))).bind fun bt279 => (if bt279.2.2 = true then (R3_element.l2 k x0 bt279.2.1 bt279.1 x4 x13 x14) else (some (bt279.1, bt279.2.1, false))))) else (none)) else (none))
def R3_element.f : Nat → List (S51) → Int → Int → List (S104) → Int → Option ((List (S104)) × Int × Bool)
 | 0, _, _, _, _, _ => none
 | k + 1, l0, a1, a2, l3, a4 => if a1 ≥ (l0.length : Int) then (R3_element.j0 k l0 a1 a2 l3 a4 true) else (if 0 ≤ a1 then (if a1 < (l0.length : Int) then (if ((rd_T51 l0 a1).f0) = 1 then (R3_element.j0 k l0 a1 a2 l3 a4 (decide (a4 > 3000))) else (R3_element.j0 k l0 a1 a2 l3 a4 true)) else (none)) else (none))
end
end Go.Proofs.YtlhhhlimjajnlaaGreat.Q
end
