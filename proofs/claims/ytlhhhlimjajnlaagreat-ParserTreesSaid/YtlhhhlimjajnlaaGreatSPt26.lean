/- Parts of the proof of parserTrees_holds, kept and merged by a program of mine (wip/tools/slim.py) out of my texts: StrG Q15 -/
import Derived.Test.YtlhhhlimjajnlaaGreatSPt0
import Derived.Sort.Walk0
import Derived.Test.YtlhhhlimjajnlaaGreatSPt4
section
set_option linter.unusedVariables false
set_option linter.unusedSimpArgs false
namespace Go.Proofs.YtlhhhlimjajnlaaGreat.X
open Go.RowKit
theorem less_flip (a b : List UInt8) : (!(Op.bytesLess a b || a == b)) = Op.bytesLess b a := by
 rw [Go.Proofs.bytesLess_eq, Go.Proofs.bytesLess_eq, Bool.eq_iff_iff]
 simp only [Bool.not_eq_true', Bool.or_eq_false_iff, decide_eq_false_iff_not, decide_eq_true_iff, beq_eq_false_iff_ne]
 constructor
 ·rintro ⟨h1, h2⟩
  exact Classical.byContradiction fun h => h2 (List.le_antisymm (List.not_lt.1 h) (List.not_lt.1 h1))
 ·intro h
  refine ⟨fun h' => List.lt_irrefl _ (List.lt_trans h h'), fun e => ?_⟩
  rw [e] at h; exact List.lt_irrefl _ h
theorem str_gtr (t : TypeId) (a b : ByteArray) : binOp .gtr t (.string a) (.string b) = pure (.bool (Op.bytesLess b.toList a.toList)) := by
 rw [← less_flip]; simp [binOp, Op.stringOp]
theorem str_geq (t : TypeId) (a b : ByteArray) : binOp .geq t (.string a) (.string b) = pure (.bool !(Op.bytesLess a.toList b.toList)) := by simp [binOp, Op.stringOp]
theorem str_leq (t : TypeId) (a b : ByteArray) : binOp .leq t (.string a) (.string b) = pure (.bool !(Op.bytesLess b.toList a.toList)) := by
 rw [← less_flip]; simp [binOp, Op.stringOp]
end Go.Proofs.YtlhhhlimjajnlaaGreat.X
end
section
namespace Go.Proofs.YtlhhhlimjajnlaaGreat.X
end Go.Proofs.YtlhhhlimjajnlaaGreat.X
namespace Go.Proofs.YtlhhhlimjajnlaaGreat.Q
open Go.RowKit Go.Proofs.YtlhhhlimjajnlaaGreatW.PrintWords Go.Proofs.YtlhhhlimjajnlaaGreatW.PrintLast Go.Proofs.YtlhhhlimjajnlaaGreatW.PrintMore
attribute [local go_sem] max2_int min2_int max_two min_two max_three min_three max_four min_four   
open Go.Proofs.YtlhhhlimjajnlaaGreat.X
attribute [local go_sem] str_gtr str_geq str_leq   
set_option linter.unusedVariables false
set_option linter.unusedSimpArgs false
mutual
def R3_texts.l0 : Nat → List (S51) → Int → ByteArray → Option (ByteArray × Int)
 | 0, _, _, _ => none
 | k + 1, x0, x1, x6 => if x1 < (x0.length : Int) then (if 0 ≤ x1 then (if ((rd_T51 x0 x1).f0) = 6 then (R3_texts.j1 k x0 x1 x6 true) else (R3_texts.j1 k x0 x1 x6 (((rd_T51 x0 x1).f0) == 7))) else (none)) else (R3_texts.j1 k x0 x1 x6 false)
def R3_texts.j1 : Nat → List (S51) → Int → ByteArray → Bool → Option (ByteArray × Int)
 | 0, _, _, _, _ => none
 | k + 1, x0, x1, x6, x26 => if x26 = true then (if 0 ≤ x1 then (if x1 < (x0.length : Int) then (if ((rd_T51 x0 x1).f0) = 6 then (if x6.size + ((rd_T51 x0 x1).f4).size ≤ 9223372036854775807 then (R3_texts.l0 k x0 (wrap64 (x1 + 1)) (x6 ++ ((rd_T51 x0 x1).f4))) else (none)) else (R3_texts.l0 k x0 (wrap64 (x1 + 1)) x6)) else (none)) else (none)) else (some (x6, x1))
end
def R3_texts.f (k : Nat) (l0 : List (S51)) (a1 : Int) : Option (ByteArray × Int) := R3_texts.l0 k l0 a1 (⟨#[]⟩ : ByteArray)
theorem R3_texts.mono_l : ∀ k, (∀ y0 y1 y2, LeO (R3_texts.l0 k y0 y1 y2) (R3_texts.l0 (k + 1) y0 y1 y2)) ∧ (∀ y0 y1 y2 y3, LeO (R3_texts.j1 k y0 y1 y2 y3) (R3_texts.j1 (k + 1) y0 y1 y2 y3))
 | 0 => ⟨fun _ _ _ r h => by simp [R3_texts.l0] at h, fun _ _ _ _ r h => by simp [R3_texts.j1] at h⟩
 | k + 1 => by
  obtain ⟨ih0, ih1⟩ := R3_texts.mono_l k
  refine ⟨?_, ?_⟩
  ·intro y0 y1 y2
   unfold R3_texts.l0
   exact leT
  ·intro y0 y1 y2 y3
   unfold R3_texts.j1
   exact leT
theorem R3_texts.mono : ∀ a0 a1 k, LeO (R3_texts.f k a0 a1) (R3_texts.f (k + 1) a0 a1) := by
 intro a0 a1 k
 obtain ⟨ih0, ih1⟩ := R3_texts.mono_l k
 unfold R3_texts.f
 exact leT
set_option maxHeartbeats 8000000 in
set_option maxRecDepth 100000 in
theorem R3_texts.calls (k : Nat) (A0 : Option Addr) (c0 : Nat) (l0 : List (S51)) (a1 : Int) (r1 : ByteArray) (r2 : Int) (w : World) (hr0 : Kd.C k51 w A0 l0.length l0) (hc0 : l0.length ≤ c0) (h : R3_texts.f k l0 a1 = some (r1, r2)) :
 Calls Tryz.prog 33 #[.slice A0 l0.length c0, .int .i64 a1] w fun e w' => e = .returned (.tuple #[.string r1, .int .i64 r2]) ∧ Drawn0 w w' := by
 have HR0 := Aside0.mk hr0
 have HC0 := Aside0.mk hc0
 clear hr0 hc0
 have H : (R3_texts.l0 k l0 a1 (⟨#[]⟩ : ByteArray)) = some (r1, r2) := h
 clear h
 have H' := Aside0.mk H
 clear H
 go_enter Tryz.func33, Tryz.ntmps33
 go_wp2
 go_loopg [1, 6] k (fun kq v1 v6 w' => ∃ (x1_1 : Int) (x6_1 : ByteArray), v1 = .int .i64 x1_1 ∧ v6 = .string x6_1 ∧ Aside0 (R3_texts.l0 kq l0 x1_1 x6_1 = some (r1, r2)) ∧ Aside0 (kq ≤ k) ∧ Drawn0 w w')
 case atStart => exact ⟨(a1), ((⟨#[]⟩ : ByteArray)), (by rfl), (by rfl), H', ⟨Nat.le_refl _⟩, by repeat (exact Drawn0.refl _)⟩
 case round =>
  clear H'
  obtain ⟨x1_1, x6_1, rfl, rfl, HA, HK1, ⟨m1, rfl⟩⟩ := hrel
  cases gk with
  | zero => exact absurd HA.out (by simp [R3_texts.l0])
  | succ k1 =>
   have H := HA.out
   clear HA
   simp only [R3_texts.l0] at H
   have HC3 := Aside0.mk H
   clear H
   go_upto_region 2 with (fail)
   go_cut [26] (fun v26 wc => ∃ (kq : Nat) (x26_2 : Bool), v26 = .bool x26_2 ∧ Aside0 (R3_texts.j1 kq l0 x1_1 x6_1 x26_2 = some (r1, r2)) ∧ Aside0 (kq ≤ k1) ∧ Drawn0 w wc)
   case first =>
    have H := HC3.out
    clear HC3
    by_cases c4 : x1_1 < (l0.length : Int)
    ·rw [if_pos c4] at H
     have c4b0 : decide (x1_1 < (l0.length : Int)) = true := decide_eq_true c4
     clear c4
     by_cases c5 : 0 ≤ x1_1
     ·rw [if_pos c5] at H
      have c5b0 : decide (0 ≤ x1_1) = true := decide_eq_true c5
      clear c5
      by_cases c6 : ((rd_T51 l0 x1_1).f0) = 6
      ·rw [if_pos c6] at H
       have c6b0 : (((rd_T51 l0 x1_1).f0) == 6) = true := beq_iff_eq.mpr c6
       have c6b1 : (((rd_T51 l0 x1_1).f0) != 6) = false := bne_eq_false_iff_eq.mpr c6
       clear c6
       have H' := Aside0.mk H
       clear H
       have p253 : 0 ≤ (x1_1 : Int) := of_decide_eq_true (zz5)
       have q253 : x1_1 < (l0.length : Int) := of_decide_eq_true (zz5)
       obtain ⟨ad253, e253, hx253_0, hx253_1, hx253_2, hx253_3, hx253_4⟩ := at_T51 HR0.out x1_1 p253 q253
       cases e253
       replace p253 := eq_true p253
       replace q253 := eq_true q253
       go_wp2
       go_meet
       case rel => exact ⟨_, (true), (by rfl), H', ⟨zz49⟩, zz4⟩
      ·rw [if_neg c6] at H
       have c6b0 : (((rd_T51 l0 x1_1).f0) == 6) = false := beq_eq_false_iff_ne.mpr c6
       have c6b1 : (((rd_T51 l0 x1_1).f0) != 6) = true := bne_iff_ne.mpr c6
       have H' := Aside0.mk H
       clear H
       have p253 : 0 ≤ (x1_1 : Int) := of_decide_eq_true (zz5)
       have q253 : x1_1 < (l0.length : Int) := of_decide_eq_true (zz5)
       obtain ⟨ad253, e253, hx253_0, hx253_1, hx253_2, hx253_3, hx253_4⟩ := at_T51 HR0.out x1_1 p253 q253
       cases e253
       replace p253 := eq_true p253
       replace q253 := eq_true q253
       have p254 : 0 ≤ (x1_1 : Int) := of_decide_eq_true (zz5)
       have q254 : x1_1 < (l0.length : Int) := of_decide_eq_true (zz5)
       obtain ⟨ad254, e254, hx254_0, hx254_1, hx254_2, hx254_3, hx254_4⟩ := at_T51 HR0.out x1_1 p254 q254
       obtain rfl : ad253 = ad254 := (by injection e254)
       replace p254 := eq_true p254
       replace q254 := eq_true q254
       go_wp2
       go_meet
       case rel => exact ⟨_, ((((rd_T51 l0 x1_1).f0) == 7)), (by rfl), H', ⟨zz49⟩, zz4⟩
     ·rw [if_neg c5] at H
      exact absurd H (by simp)
    ·rw [if_neg c4] at H
     have c4b0 : decide (x1_1 < (l0.length : Int)) = false := decide_eq_false c4
     clear c4
     have H' := Aside0.mk H
     clear H
     go_wp2
     go_meet
     case rel => exact ⟨_, (false), (by rfl), H', ⟨zz49⟩, zz4⟩
   case rest =>
    clear HC3
    obtain ⟨kq, x26_2, rfl, HA, HJ2, ⟨mc2, rfl⟩⟩ := hcut
    cases kq with
    | zero => exact absurd HA.out (by simp [R3_texts.j1])
    | succ kj2 =>
     have H := HA.out
     clear HA
     simp only [R3_texts.j1] at H
     by_cases c7 : x26_2 = true
     ·subst c7
      rw [if_pos rfl] at H
      by_cases c8 : 0 ≤ x1_1
      ·rw [if_pos c8] at H
       have c8b0 : decide (0 ≤ x1_1) = true := decide_eq_true c8
       clear c8
       by_cases c9 : x1_1 < (l0.length : Int)
       ·rw [if_pos c9] at H
        have c9b0 : decide (x1_1 < (l0.length : Int)) = true := decide_eq_true c9
        clear c9
        by_cases c10 : ((rd_T51 l0 x1_1).f0) = 6
        ·rw [if_pos c10] at H
         have c10b0 : (((rd_T51 l0 x1_1).f0) == 6) = true := beq_iff_eq.mpr c10
         have c10b1 : (((rd_T51 l0 x1_1).f0) != 6) = false := bne_eq_false_iff_eq.mpr c10
         clear c10
         by_cases c11 : x6_1.size + ((rd_T51 l0 x1_1).f4).size ≤ 9223372036854775807
         ·rw [if_pos c11] at H
          have c11b0 := eq_true c11
          have c11b1 : decide (x6_1.size + ((rd_T51 l0 x1_1).f4).size ≤ 9223372036854775807) = true := decide_eq_true c11
          have c11b2 : (9223372036854775807 < x6_1.size + ((rd_T51 l0 x1_1).f4).size) = False := eq_false (Nat.not_lt.2 c11)
          have H' := Aside0.mk H
          clear H
          have p255 : 0 ≤ (x1_1 : Int) := of_decide_eq_true (zz5)
          have q255 : x1_1 < (l0.length : Int) := of_decide_eq_true (zz5)
          obtain ⟨ad255, e255, hx255_0, hx255_1, hx255_2, hx255_3, hx255_4⟩ := at_T51 HR0.out x1_1 p255 q255
          cases e255
          replace p255 := eq_true p255
          replace q255 := eq_true q255
          have p256 : 0 ≤ (x1_1 : Int) := of_decide_eq_true (zz5)
          have q256 : x1_1 < (l0.length : Int) := of_decide_eq_true (zz5)
          obtain ⟨ad256, e256, hx256_0, hx256_1, hx256_2, hx256_3, hx256_4⟩ := at_T51 HR0.out x1_1 p256 q256
          obtain rfl : ad255 = ad256 := (by injection e256)
          replace p256 := eq_true p256
          replace q256 := eq_true q256
          go_wp2
          go_roundg kj2
          case measure => have := HK1.out; have := HJ2.out; omega
          case rel => exact ⟨(wrap64 (x1_1 + 1)), (x6_1 ++ ((rd_T51 l0 x1_1).f4)), (by rfl), (by rfl), H', ⟨by have := HK1.out; have := HJ2.out; omega⟩, zz4⟩
         ·rw [if_neg c11] at H
          exact absurd H (by simp)
        ·rw [if_neg c10] at H
         have c10b0 : (((rd_T51 l0 x1_1).f0) == 6) = false := beq_eq_false_iff_ne.mpr c10
         have c10b1 : (((rd_T51 l0 x1_1).f0) != 6) = true := bne_iff_ne.mpr c10
         have H' := Aside0.mk H
         clear H
         have p255 : 0 ≤ (x1_1 : Int) := of_decide_eq_true (zz5)
         have q255 : x1_1 < (l0.length : Int) := of_decide_eq_true (zz5)
         obtain ⟨ad255, e255, hx255_0, hx255_1, hx255_2, hx255_3, hx255_4⟩ := at_T51 HR0.out x1_1 p255 q255
         cases e255
         replace p255 := eq_true p255
         replace q255 := eq_true q255
         go_wp2
         go_roundg kj2
         case measure => have := HK1.out; have := HJ2.out; omega
         case rel => exact ⟨(wrap64 (x1_1 + 1)), (x6_1), (by rfl), (by rfl), H', ⟨by have := HK1.out; have := HJ2.out; omega⟩, zz4⟩
       ·rw [if_neg c9] at H
        exact absurd H (by simp)
      ·rw [if_neg c8] at H
       exact absurd H (by simp)
     ·replace c7 := Bool.eq_false_iff.mpr c7
      subst c7
      rw [if_neg (show ¬ (false = true) by decide)] at H
      simp only [Option.some.injEq, Prod.mk.injEq] at H
      obtain ⟨rfl, rfl⟩ := H
      go_wp2
      go_ret2
      exact ⟨by rfl, zz4⟩
def R3_spaces.f (k : Nat) (a0 : ByteArray) : Option (Bool) := (R1_Skip.f k a0 0).bind fun t257 => (some (t257 == (a0.size : Int)))
theorem R3_spaces.mono : ∀ a0 k, LeO (R3_spaces.f k a0) (R3_spaces.f (k + 1) a0) := by
 intro a0 k
 unfold R3_spaces.f
 have mo0 := @R1_Skip.mono; exact leT
set_option maxHeartbeats 8000000 in
set_option maxRecDepth 100000 in
theorem R3_spaces.calls (k : Nat) (a0 : ByteArray) (r : Bool) (w : World) (h : R3_spaces.f k a0 = some r) :
 Calls Tryz.prog 34 #[.string a0] w fun e w' => e = .returned (.bool r) ∧ Drawn0 w w' := by
 have H : ((R1_Skip.f k a0 0).bind fun t257 => (some (t257 == (a0.size : Int)))) = some r := h
 clear h
 replace H := Option.bind_eq_some_iff.mp H
 obtain ⟨t257, A20, H⟩ := H
 have A2 := Aside0.mk A20
 clear A20
 obtain rfl := Option.some.inj H
 go_enter Tryz.func34, Tryz.ntmps34
 go_wp2_with ((((with_reducible refine gate_callee (f := 67) rfl ?_); refine goesL_ (some 4) rfl rfl Tryz.func67 (by kernel_rfl) rfl #[.string a0, .int .i64 0] rfl (zz1) ?_; (with_reducible refine (R1_Skip.calls k a0 0 t257 _ A2.out).mono ?_); rintro e w' ⟨rfl, ⟨nd, rfl⟩⟩; refine ⟨_, rfl, ?_⟩)))
 go_ret
 exact ⟨by rfl, zz4⟩
mutual
def R3_element.j0 : Nat → List (S51) → Int → Int → List (S104) → Int → Bool → Option ((List (S104)) × Int × Bool)
 | 0, _, _, _, _, _, _ => none
 | k + 1, x0, x1, x2, x3, x4, x36 => if x36 = true then (some (x3, x1, false)) else (if 0 ≤ x1 then (if x1 < (x0.length : Int) then (if x3.length < 2513169434916 then (R3_element.l0 k x0 (wrap64 (x1 + 1)) (x3 ++ [(⟨(⟨1, 0, x2, (⟨#[]⟩ : ByteArray)⟩ : S41), (rd_T51 x0 x1).f3⟩ : S104)]) x4 (x3.length : Int) ((rd_T51 x0 x1).f3)) else (none)) else (none)) else (none))
def R3_element.l0 : Nat → List (S51) → Int → List (S104) → Int → Int → ByteArray → Option ((List (S104)) × Int × Bool)
 | 0, _, _, _, _, _, _ => none
 | k + 1, x0, x1, x3, x4, x13, x14 => if x1 < (x0.length : Int) then (if 0 ≤ x1 then (R3_element.j2 k x0 x1 x3 x4 x13 x14 (((rd_T51 x0 x1).f0) == 2)) else (none)) else (R3_element.j2 k x0 x1 x3 x4 x13 x14 false)
def R3_element.j2 : Nat → List (S51) → Int → List (S104) → Int → Int → ByteArray → Bool → Option ((List (S104)) × Int × Bool)
 | 0, _, _, _, _, _, _, _ => none
 | k + 1, x0, x1, x3, x4, x13, x14, x66 => if x66 = true then (R3_element.l1 k x0 x1 x3 x4 x13 x14 (wrap64 (x13 + 1))) else (if x1 ≥ (x0.length : Int) then (some (x3, x1, false)) else (if 0 ≤ x1 then (if x1 < (x0.length : Int) then (if ((rd_T51 x0 x1).f0) = 4 then (some (x3, wrap64 (x1 + 1), true)) else (R3_element.l2 k x0 (wrap64 (x1 + 1)) x3 x4 x13 x14)) else (none)) else (none)))
def R3_element.l1 : Nat → List (S51) → Int → List (S104) → Int → Int → ByteArray → Int → Option ((List (S104)) × Int × Bool)
 | 0, _, _, _, _, _, _, _ => none
 | k + 1, x0, x1, x3, x4, x13, x14, x15 => if x15 < (x3.length : Int) then (if 0 ≤ x15 then (if 0 ≤ x1 then (if x1 < (x0.length : Int) then (if ((rd_T104 x3 x15).f1).toList = ((rd_T51 x0 x1).f3).toList then (some (x3, x1, false)) else (R3_element.l1 k x0 x1 x3 x4 x13 x14 (wrap64 (x15 + 1)))) else (none)) else (none)) else (none)) else (if 0 ≤ x1 then (if x1 < (x0.length : Int) then (if x3.length < 2513169434916 then (R3_element.l0 k x0 (wrap64 (x1 + 1)) (x3 ++ [(⟨(⟨2, 0, x13, (rd_T51 x0 x1).f4⟩ : S41), (rd_T51 x0 x1).f3⟩ : S104)]) x4 x13 x14) else (none)) else (none)) else (none))
def R3_element.l2 : Nat → List (S51) → Int → List (S104) → Int → Int → ByteArray → Option ((List (S104)) × Int × Bool)
 | 0, _, _, _, _, _, _ => none
 | k + 1, x0, x1, x3, x4, x13, x14 => (R3_texts.f k x0 x1).bind fun bt272 => (if bt272.1.toList = ([] : List UInt8) then (R3_element.j5 k x0 x3 x4 x13 x14 bt272.2) else (if x3.length < 2513169434916 then (R3_element.j5 k x0 (x3 ++ [(⟨(⟨3, (-1), x13, bt272.1⟩ : S41), (⟨#[]⟩ : ByteArray)⟩ : S104)]) x4 x13 x14 bt272.2) else (none)))
def R3_element.j5 : Nat → List (S51) → List (S104) → Int → Int → ByteArray → Int → Option ((List (S104)) × Int × Bool)
 | 0, _, _, _, _, _, _ => none
 | k + 1, x0, x3, x4, x13, x14, x17 => if x17 ≥ (x0.length : Int) then (some (x3, x17, false)) else (if 0 ≤ x17 then (if x17 < (x0.length : Int) then (if ((rd_T51 x0 x17).f0) = 5 then (some (x3, wrap64 (x17 + 1), (((rd_T51 x0 x17).f3).toList == x14.toList))) else ((R3_element.f k x0 x17 x13 x3 (wrap64 (x4 + 1))).bind fun bt279 => (if bt279.2.2 = true then (R3_element.l2 k x0 bt279.2.1 bt279.1 x4 x13 x14) else (some (bt279.1, bt279.2.1, false))))) else (none)) else (none))
def R3_element.f : Nat → List (S51) → Int → Int → List (S104) → Int → Option ((List (S104)) × Int × Bool)
 | 0, _, _, _, _, _ => none
 | k + 1, l0, a1, a2, l3, a4 => if a1 ≥ (l0.length : Int) then (R3_element.j0 k l0 a1 a2 l3 a4 true) else (if 0 ≤ a1 then (if a1 < (l0.length : Int) then (if ((rd_T51 l0 a1).f0) = 1 then (R3_element.j0 k l0 a1 a2 l3 a4 (decide (a4 > 3000))) else (R3_element.j0 k l0 a1 a2 l3 a4 true)) else (none)) else (none))
end
theorem R3_element.mono_l : ∀ k, (∀ y0 y1 y2 y3 y4, LeO (R3_element.f k y0 y1 y2 y3 y4) (R3_element.f (k + 1) y0 y1 y2 y3 y4)) ∧ (∀ y0 y1 y2 y3 y4 y5, LeO (R3_element.j0 k y0 y1 y2 y3 y4 y5) (R3_element.j0 (k + 1) y0 y1 y2 y3 y4 y5)) ∧ (∀ y0 y1 y2 y3 y4 y5, LeO (R3_element.l0 k y0 y1 y2 y3 y4 y5) (R3_element.l0 (k + 1) y0 y1 y2 y3 y4 y5)) ∧ (∀ y0 y1 y2 y3 y4 y5 y6, LeO (R3_element.j2 k y0 y1 y2 y3 y4 y5 y6) (R3_element.j2 (k + 1) y0 y1 y2 y3 y4 y5 y6)) ∧ (∀ y0 y1 y2 y3 y4 y5 y6, LeO (R3_element.l1 k y0 y1 y2 y3 y4 y5 y6) (R3_element.l1 (k + 1) y0 y1 y2 y3 y4 y5 y6)) ∧ (∀ y0 y1 y2 y3 y4 y5, LeO (R3_element.l2 k y0 y1 y2 y3 y4 y5) (R3_element.l2 (k + 1) y0 y1 y2 y3 y4 y5)) ∧ (∀ y0 y1 y2 y3 y4 y5, LeO (R3_element.j5 k y0 y1 y2 y3 y4 y5) (R3_element.j5 (k + 1) y0 y1 y2 y3 y4 y5))
 | 0 => ⟨fun _ _ _ _ _ r h => by simp [R3_element.f] at h, fun _ _ _ _ _ _ r h => by simp [R3_element.j0] at h, fun _ _ _ _ _ _ r h => by simp [R3_element.l0] at h, fun _ _ _ _ _ _ _ r h => by simp [R3_element.j2] at h, fun _ _ _ _ _ _ _ r h => by simp [R3_element.l1] at h, fun _ _ _ _ _ _ r h => by simp [R3_element.l2] at h, fun _ _ _ _ _ _ r h => by simp [R3_element.j5] at h⟩
 | k + 1 => by
  obtain ⟨ih0, ih1, ih2, ih3, ih4, ih5, ih6⟩ := R3_element.mono_l k
  refine ⟨?_, ?_, ?_, ?_, ?_, ?_, ?_⟩
  ·intro y0 y1 y2 y3 y4
   unfold R3_element.f
   have mo0 := @R3_texts.mono; exact leT
  ·intro y0 y1 y2 y3 y4 y5
   unfold R3_element.j0
   have mo0 := @R3_texts.mono; exact leT
  ·intro y0 y1 y2 y3 y4 y5
   unfold R3_element.l0
   have mo0 := @R3_texts.mono; exact leT
  ·intro y0 y1 y2 y3 y4 y5 y6
   unfold R3_element.j2
   have mo0 := @R3_texts.mono; exact leT
  ·intro y0 y1 y2 y3 y4 y5 y6
   unfold R3_element.l1
   have mo0 := @R3_texts.mono; exact leT
  ·intro y0 y1 y2 y3 y4 y5
   unfold R3_element.l2
   have mo0 := @R3_texts.mono; exact leT
  ·intro y0 y1 y2 y3 y4 y5
   unfold R3_element.j5
   have mo0 := @R3_texts.mono; exact leT
theorem R3_element.mono : ∀ a0 a1 a2 a3 a4 k, LeO (R3_element.f k a0 a1 a2 a3 a4) (R3_element.f (k + 1) a0 a1 a2 a3 a4) := by
 intro a0 a1 a2 a3 a4 k
 obtain ⟨ih0, ih1, ih2, ih3, ih4, ih5, ih6⟩ := R3_element.mono_l k
 exact ih0 a0 a1 a2 a3 a4
def R3_element.T11 : Bool × List (List Nat × List Nat) := (true, [([], []), ([], []), ([0, 1], [0, 1]), ([2], [2]), ([3], [3]), ([], []), ([], []), ([5, 6], [5, 6]), ([7], [7]), ([8], [8]), ([4, 9], [4, 9])])
def R3_element.B11 : List Nat := [0, 0, 3, 7, 15, 0, 0, 96, 224, 480, 1023]
theorem R3_element.tab11 : rtab .any (opsOf Tryz.f35 11) = R3_element.T11 := by kernel_rfl
theorem R3_element.bits11 : waitsOk R3_element.T11.2 R3_element.B11 = true := by kernel_rfl
def R3_element.T13 : Bool × List (List Nat × List Nat) := (true, [([], []), ([], []), ([], []), ([], []), ([2, 3], [2, 3]), ([4], [4]), ([5], [5]), ([1, 6], [1, 6]), ([], []), ([], []), ([8, 9], [8, 9]), ([10], [10]), ([11], [11]), ([7, 12], [7, 12]), ([13], [13]), ([0, 14], [0, 14]), ([15, 15, 0, 1, 2, 3, 4, 5, 6, 7, 8, 9, 10, 11, 12, 13, 14, 15], [0, 15])])
def R3_element.B13 : List Nat := [0, 0, 0, 0, 12, 28, 60, 126, 0, 0, 768, 1792, 3840, 8190, 16382, 32767, 65535]
theorem R3_element.tab13 : rtab .any (opsOf Tryz.f35 13) = R3_element.T13 := by kernel_rfl
theorem R3_element.bits13 : waitsOk R3_element.T13.2 R3_element.B13 = true := by kernel_rfl
def R3_element.T27 : Bool × List (List Nat × List Nat) := (true, [([], []), ([], []), ([1], [1]), ([], []), ([], []), ([3, 4], [3, 4]), ([5], [5]), ([6], [6]), ([], []), ([7, 8], [7, 8]), ([0, 0], [0]), ([2, 10, 0, 1, 2, 10], [2]), ([9, 11, 0, 1, 2, 3, 4, 5, 6, 7, 8, 9, 10, 11], [9])])
def R3_element.B27 : List Nat := [0, 0, 2, 0, 0, 24, 56, 120, 0, 504, 1, 1031, 4095]
theorem R3_element.tab27 : rtab .any (opsOf Tryz.f35 27) = R3_element.T27 := by kernel_rfl
theorem R3_element.bits27 : waitsOk R3_element.T27.2 R3_element.B27 = true := by kernel_rfl
set_option maxHeartbeats 8000000 in
set_option maxRecDepth 100000 in
theorem R3_element.calls (k : Nat) : ∀ (A0 : Option Addr) (c0 : Nat) (l0 : List (S51)) (a1 : Int) (a2 : Int) (P3_ : Nat → Prop) (u9000_ : Value) (l3 : List (S104)) (a4 : Int) (r1 : List (S104)) (r2 : Int) (r3 : Bool) (w0 w : World) (hB : Below w0.heap.size w0 w) (hr0 : ∀ W_, Kept w W_ (fun k_ => P3_ k_) → Kd.C k51 W_ A0 l0.length l0) (hc0 : l0.length ≤ c0) (ho3 : Kd.R k104 104 w w0.heap.size P3_ u9000_ l3) (h : R3_element.f k l0 a1 a2 l3 a4 = some (r1, r2, r3)),
 Calls Tryz.prog 35 #[.slice A0 l0.length c0, .int .i64 a1, .int .i64 a2, u9000_, .int .i64 a4] w fun e w' => ∃ v0_ : Value, e = .returned (.tuple #[v0_, .int .i64 r2, .bool r3]) ∧ Kd.R k104 104 w' w0.heap.size (fun k_ => (P3_ k_ ∨ w.heap.size ≤ k_)) v0_ r1 ∧ Below w0.heap.size w0 w' ∧ Kept w w' (fun k_ => P3_ k_) := by
 induction k using Nat.strongRecOn with
 | _ k ih =>
 intro A0 c0 l0 a1 a2 P3_ u9000_ l3 a4 r1 r2 r3 w0 w hB hr0 hc0 ho3 h
 cases k with
 | zero => exact absurd h (by simp [R3_element.f])
 | succ k =>
 simp only [R3_element.f] at h
 have hu41 := Tryz.underlying41
 have hu104 := Tryz.underlying104
 have HR0 := Aside0.mk hr0
 have HC0 := Aside0.mk hc0
 clear hr0 hc0
 have HO3 := Aside0.mk (show Kd.R k104 104 w w0.heap.size (fun k_ => (P3_ k_ ∨ w.heap.size ≤ k_)) u9000_ l3 from Kd.R_mono ho3 (fun k_ hk => (.inl hk)))
 have HK := Aside0.mk (Kept.refl w (fun k_ => P3_ k_))
 have HW0 := Aside0.mk hB.size
 have HB := Aside0.mk hB
 clear hB
 have H : (if a1 ≥ (l0.length : Int) then (R3_element.j0 k l0 a1 a2 l3 a4 true) else (if 0 ≤ a1 then (if a1 < (l0.length : Int) then (if ((rd_T51 l0 a1).f0) = 1 then (R3_element.j0 k l0 a1 a2 l3 a4 (decide (a4 > 3000))) else (R3_element.j0 k l0 a1 a2 l3 a4 true)) else (none)) else (none))) = some (r1, r2, r3) := h
 clear h
 have HC6 := Aside0.mk H
 clear H
 go_enter Tryz.func35, Tryz.ntmps35
 go_upto_region 1 with (fail)
 go_cut [36] (fun v36 wc => ∃ (kq : Nat) (x36_5 : Bool), v36 = .bool x36_5 ∧ Aside0 (R3_element.j0 kq l0 a1 a2 l3 a4 x36_5 = some (r1, r2, r3)) ∧ Aside0 (kq ≤ k) ∧ Aside0 (Kd.R k104 104 wc w0.heap.size (fun k_ => (P3_ k_ ∨ w.heap.size ≤ k_)) u9000_ l3) ∧ Aside0 (Kept w wc (fun k_ => P3_ k_)) ∧ Aside0 (Below w0.heap.size w0 wc))
 case first =>
  have H := HC6.out
  clear HC6
  by_cases c7 : a1 ≥ (l0.length : Int)
  ·rw [if_pos c7] at H
   have c7b0 : decide ((l0.length : Int) ≤ a1) = true := decide_eq_true c7
   clear c7
   have H' := Aside0.mk H
   clear H
   go_wp2
   go_meet
   case rel => exact ⟨_, (true), (by rfl), H', ⟨by omega⟩, ⟨by (with_reducible repeat (first | apply Kd.R_alloc | apply Kd.R_drewN | apply Kd.R_drew)); exact HO3.out⟩, ⟨zz13⟩, ⟨zz0⟩⟩
  ·rw [if_neg c7] at H
   have c7b0 : decide ((l0.length : Int) ≤ a1) = false := decide_eq_false c7
   clear c7
   by_cases c8 : 0 ≤ a1
   ·rw [if_pos c8] at H
    have c8b0 : decide (0 ≤ a1) = true := decide_eq_true c8
    clear c8
    by_cases c9 : a1 < (l0.length : Int)
    ·rw [if_pos c9] at H
     have c9b0 : decide (a1 < (l0.length : Int)) = true := decide_eq_true c9
     clear c9
     by_cases c10 : ((rd_T51 l0 a1).f0) = 1
     ·rw [if_pos c10] at H
      have c10b0 : (((rd_T51 l0 a1).f0) == 1) = true := beq_iff_eq.mpr c10
      have c10b1 : (((rd_T51 l0 a1).f0) != 1) = false := bne_eq_false_iff_eq.mpr c10
      clear c10
      have H' := Aside0.mk H
      clear H
      have p258 : 0 ≤ (a1 : Int) := of_decide_eq_true (zz5)
      have q258 : a1 < (l0.length : Int) := of_decide_eq_true (zz5)
      obtain ⟨ad258, e258, hx258_0, hx258_1, hx258_2, hx258_3, hx258_4⟩ := at_T51 (Kd.C_kept_now HR0.out HK.out) a1 p258 q258
      cases e258
      replace p258 := eq_true p258
      replace q258 := eq_true q258
      go_wp2
      go_meet
      case rel => exact ⟨_, (decide (a4 > 3000)), (by rfl), H', ⟨by omega⟩, ⟨by (with_reducible repeat (first | apply Kd.R_alloc | apply Kd.R_drewN | apply Kd.R_drew)); exact HO3.out⟩, ⟨zz13⟩, ⟨zz0⟩⟩
     ·rw [if_neg c10] at H
      have c10b0 : (((rd_T51 l0 a1).f0) == 1) = false := beq_eq_false_iff_ne.mpr c10
      have c10b1 : (((rd_T51 l0 a1).f0) != 1) = true := bne_iff_ne.mpr c10
      have H' := Aside0.mk H
      clear H
      have p258 : 0 ≤ (a1 : Int) := of_decide_eq_true (zz5)
      have q258 : a1 < (l0.length : Int) := of_decide_eq_true (zz5)
      obtain ⟨ad258, e258, hx258_0, hx258_1, hx258_2, hx258_3, hx258_4⟩ := at_T51 (Kd.C_kept_now HR0.out HK.out) a1 p258 q258
      cases e258
      replace p258 := eq_true p258
      replace q258 := eq_true q258
      go_wp2
      go_meet
      case rel => exact ⟨_, (true), (by rfl), H', ⟨by omega⟩, ⟨by (with_reducible repeat (first | apply Kd.R_alloc | apply Kd.R_drewN | apply Kd.R_drew)); exact HO3.out⟩, ⟨zz13⟩, ⟨zz0⟩⟩
    ·rw [if_neg c9] at H
     exact absurd H (by simp)
   ·rw [if_neg c8] at H
    exact absurd H (by simp)
 case rest =>
  clear HC6
  obtain ⟨kq, x36_5, rfl, HA, HJ5, HO_3, HK, HB⟩ := hcut
  cases kq with
  | zero => exact absurd HA.out (by simp [R3_element.j0])
  | succ kj5 =>
   have H := HA.out
   clear HA
   simp only [R3_element.j0] at H
   by_cases c11 : x36_5 = true
   ·subst c11
    rw [if_pos rfl] at H
    simp only [Option.some.injEq, Prod.mk.injEq] at H
    obtain ⟨rfl, rfl, rfl⟩ := H
    go_wp2
    go_ret3
    exact ⟨_, by rfl, zz15, zz0, zz13⟩
   ·replace c11 := Bool.eq_false_iff.mpr c11
    subst c11
    rw [if_neg (show ¬ (false = true) by decide)] at H
    by_cases c12 : 0 ≤ a1
    ·rw [if_pos c12] at H
     have c12b0 : decide (0 ≤ a1) = true := decide_eq_true c12
     clear c12
     by_cases c13 : a1 < (l0.length : Int)
     ·rw [if_pos c13] at H
      have c13b0 : decide (a1 < (l0.length : Int)) = true := decide_eq_true c13
      clear c13
      by_cases c14 : l3.length < 2513169434916
      ·rw [if_pos c14] at H
       have LMc14 := Aside0.mk c14
       clear c14
       obtain ⟨y260, hy260⟩ : ∃ y_ : List (S104), y_ = (l3 ++ [(⟨(⟨1, 0, a2, (⟨#[]⟩ : ByteArray)⟩ : S41), (rd_T51 l0 a1).f3⟩ : S104)]) := ⟨_, rfl⟩
       replace H : (R3_element.l0 kj5 l0 (wrap64 (a1 + 1)) y260 a4 (l3.length : Int) ((rd_T51 l0 a1).f3)) = some (r1, r2, r3) := by ((rw [hy260]; with_reducible exact H))
       have Ny260 := Aside0.mk hy260
       clear hy260
       have H' := Aside0.mk H
       clear H
       obtain ⟨Ao15, co15, eo15⟩ := Kd.R_slice HO_3.out
       subst eo15
       have p259 : 0 ≤ (a1 : Int) := of_decide_eq_true (zz5)
       have q259 : a1 < (l0.length : Int) := of_decide_eq_true (zz5)
       obtain ⟨ad259, e259, hx259_0, hx259_1, hx259_2, hx259_3, hx259_4⟩ := at_T51 (Kd.C_kept_now HR0.out HK.out) a1 p259 q259
       cases e259
       replace p259 := eq_true p259
       replace q259 := eq_true q259
       go_wp2_with ((((with_reducible refine gate_builtin (b := .append) (xs := #[.tmp 46, .tmp 51]) rfl ?_); at_builtin; refine Kd.R_append k104 (w0 := w0) w0.heap.size rfl (.tmp 46) (.tmp 51) 58 104 (.agg #[(.int .i64 0), (.int .i64 0), (.int .i64 0), (.string ⟨#[]⟩), (.string ⟨#[]⟩)]) 56 rfl Tryz.underlying58 info104 rfl (by decide) (by omega) (.slice Ao15 l3.length co15) l3 (⟨(⟨1, 0, a2, (⟨#[]⟩ : ByteArray)⟩ : S41), (rd_T51 l0 a1).f3⟩ : S104) [.int .i64 1, .int .i64 0, .int .i64 a2, .string (⟨#[]⟩ : ByteArray), .string ((rd_T51 l0 a1).f3)] (fun k_ => (P3_ k_ ∨ w.heap.size ≤ k_)) (fun _ => False) rfl rfl ?aP (fun _ hk => hk.elim) ?aF ?aO ?aB ?aS ?aL ?_; (case aP => exact k104_mkM _ _ _ (⟨(⟨1, 0, a2, (⟨#[]⟩ : ByteArray)⟩ : S41), (rd_T51 l0 a1).f3⟩ : S104)); (case aB => exact (zz0)); (case aF => exact (fun k_ hk => (.inr (Nat.le_trans (by exact HK.out.1) hk)))); (case aO => exact (zz15)); (case aS => exact (below_size (zz0))); (case aL => have := LMc14.out; omega); intro v261 w16 ho hb hg hat; rw [← Ny260.out] at ho; have n0_ := Aside0.mk (hb); have n1_ := Aside0.mk (Kept.of_grown (S := (fun k_ => P3_ k_)) hg (zz13) (fun k_ e_ => (HO_3.out.1 k_ e_))); have n2_ := Aside0.mk (ho); clear HB; clear HK; clear HO_3; have HB := n0_; have HK := n1_; have HO262 := n2_; clear n0_ n1_ n2_; clear ho hb hg hat)))
       go_loopg [1, 3] kj5 (fun kq v1 v3 w' => ∃ (x1_2 : Int) (x3_2 : List (S104)), v1 = .int .i64 x1_2 ∧ Aside0 (R3_element.l0 kq l0 x1_2 x3_2 a4 (l3.length : Int) ((rd_T51 l0 a1).f3) = some (r1, r2, r3)) ∧ Aside0 (kq ≤ kj5) ∧ Aside0 (Kd.R k104 104 w' w0.heap.size (fun k_ => (P3_ k_ ∨ w.heap.size ≤ k_)) v3 x3_2) ∧ Aside0 (Kept w w' (fun k_ => P3_ k_)) ∧ Aside0 (Below w0.heap.size w0 w'))
       case atStart => exact ⟨(wrap64 (a1 + 1)), (y260), (by rfl), H', ⟨Nat.le_refl _⟩, ⟨by (with_reducible repeat (first | apply Kd.R_alloc | apply Kd.R_drewN | apply Kd.R_drew)); exact HO262.out⟩, ⟨zz13⟩, ⟨zz0⟩⟩
       case round =>
        clear H'
        clear c12b0
        clear c13b0
        clear hx259_0
        clear hx259_1
        clear hx259_2
        clear hx259_3
        clear hx259_4
        clear p259
        clear q259
        obtain ⟨x1_2, x3_2, rfl, HA, HK2, HO_3, HK, HB⟩ := hrel
        cases gk with
        | zero => exact absurd HA.out (by simp [R3_element.l0])
        | succ k2 =>
         have H := HA.out
         clear HA
         simp only [R3_element.l0] at H
         have HC17 := Aside0.mk H
         clear H
         go_upto_region 7 with (fail)
         go_cut [66] (fun v66 wc => ∃ (kq : Nat) (x66_16 : Bool), v66 = .bool x66_16 ∧ Aside0 (R3_element.j2 kq l0 x1_2 x3_2 a4 (l3.length : Int) ((rd_T51 l0 a1).f3) x66_16 = some (r1, r2, r3)) ∧ Aside0 (kq ≤ k2) ∧ Aside0 (Kd.R k104 104 wc w0.heap.size (fun k_ => (P3_ k_ ∨ w.heap.size ≤ k_)) u3 x3_2) ∧ Aside0 (Kept w wc (fun k_ => P3_ k_)) ∧ Aside0 (Below w0.heap.size w0 wc))
         case first =>
          have H := HC17.out
          clear HC17
          by_cases c18 : x1_2 < (l0.length : Int)
          ·rw [if_pos c18] at H
           have c18b0 : decide (x1_2 < (l0.length : Int)) = true := decide_eq_true c18
           clear c18
           by_cases c19 : 0 ≤ x1_2
           ·rw [if_pos c19] at H
            have c19b0 : decide (0 ≤ x1_2) = true := decide_eq_true c19
            clear c19
            have H' := Aside0.mk H
            clear H
            have p263 : 0 ≤ (x1_2 : Int) := of_decide_eq_true (zz5)
            have q263 : x1_2 < (l0.length : Int) := of_decide_eq_true (zz5)
            obtain ⟨ad263, e263, hx263_0, hx263_1, hx263_2, hx263_3, hx263_4⟩ := at_T51 (Kd.C_kept_now HR0.out HK.out) x1_2 p263 q263
            obtain rfl : ad259 = ad263 := (by injection e263)
            replace p263 := eq_true p263
            replace q263 := eq_true q263
            go_wp2
            go_meet
            case rel => exact ⟨_, ((((rd_T51 l0 x1_2).f0) == 2)), (by rfl), H', ⟨by have := HJ5.out; have := HK2.out; omega⟩, ⟨zz15⟩, ⟨zz13⟩, ⟨zz0⟩⟩
           ·rw [if_neg c19] at H
            exact absurd H (by simp)
          ·rw [if_neg c18] at H
           have c18b0 : decide (x1_2 < (l0.length : Int)) = false := decide_eq_false c18
           clear c18
           have H' := Aside0.mk H
           clear H
           go_wp2
           go_meet
           case rel => exact ⟨_, (false), (by rfl), H', ⟨by have := HJ5.out; have := HK2.out; omega⟩, ⟨zz15⟩, ⟨zz13⟩, ⟨zz0⟩⟩
         case rest =>
          clear HC17
          obtain ⟨kq, x66_16, rfl, HA, HJ16, HO_3, HK, HB⟩ := hcut
          cases kq with
          | zero => exact absurd HA.out (by simp [R3_element.j2])
          | succ kj16 =>
           have H := HA.out
           clear HA
           simp only [R3_element.j2] at H
           by_cases c20 : x66_16 = true
           ·subst c20
            rw [if_pos rfl] at H
            have H' := Aside0.mk H
            clear H
            go_wp2
            go_loopg [15] kj16 (fun kq v15 w' => ∃ (x15_4 : Int), v15 = .int .i64 x15_4 ∧ Aside0 (R3_element.l1 kq l0 x1_2 x3_2 a4 (l3.length : Int) ((rd_T51 l0 a1).f3) x15_4 = some (r1, r2, r3)) ∧ Aside0 (kq ≤ kj16) ∧ Aside0 (Kd.R k104 104 w' w0.heap.size (fun k_ => (P3_ k_ ∨ w.heap.size ≤ k_)) u3 x3_2) ∧ Aside0 (Kept w w' (fun k_ => P3_ k_)) ∧ Aside0 (Below w0.heap.size w0 w'))
            case atStart => exact ⟨(wrap64 ((l3.length : Int) + 1)), (by rfl), H', ⟨Nat.le_refl _⟩, ⟨zz15⟩, ⟨zz13⟩, ⟨zz0⟩⟩
            case round =>
             clear H'
             obtain ⟨x15_4, rfl, HA, HK4, HO_3, HK, HB⟩ := hrel
             cases gk with
             | zero => exact absurd HA.out (by simp [R3_element.l1])
             | succ k4 =>
              have H := HA.out
              clear HA
              simp only [R3_element.l1] at H
              by_cases c21 : x15_4 < (x3_2.length : Int)
              ·rw [if_pos c21] at H
               have c21b0 : decide (x15_4 < (x3_2.length : Int)) = true := decide_eq_true c21
               clear c21
               by_cases c22 : 0 ≤ x15_4
               ·rw [if_pos c22] at H
                have c22b0 : decide (0 ≤ x15_4) = true := decide_eq_true c22
                clear c22
                by_cases c23 : 0 ≤ x1_2
                ·rw [if_pos c23] at H
                 have c23b0 : decide (0 ≤ x1_2) = true := decide_eq_true c23
                 clear c23
                 by_cases c24 : x1_2 < (l0.length : Int)
                 ·rw [if_pos c24] at H
                  have c24b0 : decide (x1_2 < (l0.length : Int)) = true := decide_eq_true c24
                  clear c24
                  by_cases c25 : ((rd_T104 x3_2 x15_4).f1).toList = ((rd_T51 l0 x1_2).f3).toList
                  ·rw [if_pos c25] at H
                   have c25b0 : (((rd_T104 x3_2 x15_4).f1).toList == ((rd_T51 l0 x1_2).f3).toList) = true := beq_iff_eq.mpr c25
                   have c25b1 : (((rd_T104 x3_2 x15_4).f1).toList != ((rd_T51 l0 x1_2).f3).toList) = false := bne_eq_false_iff_eq.mpr c25
                   clear c25
                   simp only [Option.some.injEq, Prod.mk.injEq] at H
                   obtain ⟨rfl, rfl, rfl⟩ := H
                   obtain ⟨Ao26, co26, eo26⟩ := Kd.R_slice HO_3.out
                   subst eo26
                   go_wp2
                   have n0_ := Aside0.mk (Kd.R_drew HO_3.out)
                   have n1_ := Aside0.mk (Kept.drew HK.out)
                   have n2_ := Aside0.mk (below_drew1 HB.out)
                   clear HO_3
                   clear HK
                   clear HB
                   have HO_3 := n0_
                   have HK := n1_
                   have HB := n2_
                   clear n0_ n1_ n2_
                   have p264 : 0 ≤ (x15_4 : Int) := of_decide_eq_true (zz5)
                   have q264 : x15_4 < (x3_2.length : Int) := of_decide_eq_true (zz5)
                   obtain ⟨ad264, e264, hx264_0, hx264_1, hx264_2, hx264_3, hx264_4⟩ := at_T104 (Kd.R_reads' HO_3.out).2.2 x15_4 p264 q264
                   cases e264
                   replace p264 := eq_true p264
                   replace q264 := eq_true q264
                   have p265 : 0 ≤ (x1_2 : Int) := of_decide_eq_true (zz5)
                   have q265 : x1_2 < (l0.length : Int) := of_decide_eq_true (zz5)
                   obtain ⟨ad265, e265, hx265_0, hx265_1, hx265_2, hx265_3, hx265_4⟩ := at_T51 (Kd.C_kept_now HR0.out HK.out) x1_2 p265 q265
                   have hw265_4 := hx265_4
                   have hw265_3 := hx265_3
                   have hw265_2 := hx265_2
                   have hw265_1 := hx265_1
                   have hw265_0 := hx265_0
                   obtain rfl : ad259 = ad265 := (by injection e265)
                   replace p265 := eq_true p265
                   replace q265 := eq_true q265
                   refine start_ (n := 11) (S := fun w' => w'.cell? (ad264.add ((x15_4).toNat * 5)) = some (.int .i64 ((rd_T104 x3_2 x15_4).f0.f0)) ∧ w'.cell? ⟨(ad264.add ((x15_4).toNat * 5)).block, (ad264.add ((x15_4).toNat * 5)).off + 1, none⟩ = some (.int .i64 ((rd_T104 x3_2 x15_4).f0.f1)) ∧ w'.cell? ⟨(ad264.add ((x15_4).toNat * 5)).block, (ad264.add ((x15_4).toNat * 5)).off + 2, none⟩ = some (.int .i64 ((rd_T104 x3_2 x15_4).f0.f2)) ∧ w'.cell? ⟨(ad264.add ((x15_4).toNat * 5)).block, (ad264.add ((x15_4).toNat * 5)).off + 3, none⟩ = some (.string ((rd_T104 x3_2 x15_4).f0.f3)) ∧ w'.cell? ⟨(ad264.add ((x15_4).toNat * 5)).block, (ad264.add ((x15_4).toNat * 5)).off + 4, none⟩ = some (.string ((rd_T104 x3_2 x15_4).f1)) ∧ w'.cell? (ad259.add ((x1_2).toNat * 5)) = some (.int .i64 ((rd_T51 l0 x1_2).f0)) ∧ w'.cell? ⟨(ad259.add ((x1_2).toNat * 5)).block, (ad259.add ((x1_2).toNat * 5)).off + 1, none⟩ = some (.int .i64 ((rd_T51 l0 x1_2).f1)) ∧ w'.cell? ⟨(ad259.add ((x1_2).toNat * 5)).block, (ad259.add ((x1_2).toNat * 5)).off + 2, none⟩ = some (.int .i64 ((rd_T51 l0 x1_2).f2)) ∧ w'.cell? ⟨(ad259.add ((x1_2).toNat * 5)).block, (ad259.add ((x1_2).toNat * 5)).off + 3, none⟩ = some (.string ((rd_T51 l0 x1_2).f3)) ∧ w'.cell? ⟨(ad259.add ((x1_2).toNat * 5)).block, (ad259.add ((x1_2).toNat * 5)).off + 4, none⟩ = some (.string ((rd_T51 l0 x1_2).f4))) (ds := []) #[false, false, false, false, false, false, false, false, false, false, false] (by kernel_rfl) rfl rfl ⟨hx264_0, hx264_1, hx264_2, hx264_3, hx264_4, hx265_0, hx265_1, hx265_2, hx265_3, hx265_4⟩ (fun hHeld => ?_); refine with_tabW R3_element.tab11 R3_element.bits11 (fun HT_ HW_ => ?_)
                   generalize wr.drew = w27 at HO_3 HK HB hx264_0 hx264_1 hx264_2 hx264_3 hx264_4 hx265_0 hx265_1 hx265_2 hx265_3 hx265_4 hHeld ⊢
                   refine pure_ (i := 0) (N := some 75) (v := ?_) (a' := ?_) #[true, false, false, false, false, false, false, false, false, false, false] rfl rfl (any_of HT_.out (by kernel_rfl)) (fun _ _ _ h => h) (Or.inl ⟨by rfl, ?_⟩) ?_ ?_
                   rotate_left
                   ·intro w'
                    go_simp
                    with_reducible rfl
                   rotate_left
                   ·simp only [Act.put, List.setIfInBounds_toArray, List.set_cons_zero, List.set_cons_succ, i64_w, i32_w]
                    rfl
                   refine pure_ (i := 1) (N := some 76) (v := ?_) (a' := ?_) #[true, true, false, false, false, false, false, false, false, false, false] rfl rfl (any_of HT_.out (by kernel_rfl)) (fun _ _ _ h => h) (Or.inl ⟨by rfl, ?_⟩) ?_ ?_
                   rotate_left
                   ·intro w'
                    go_simp
                    with_reducible rfl
                   rotate_left
                   ·simp only [Act.put, List.setIfInBounds_toArray, List.set_cons_zero, List.set_cons_succ, i64_w, i32_w]
                    rfl
                   refine pure_ (i := 2) (N := some 77) (v := ?_) (a' := ?_) #[true, true, true, false, false, false, false, false, false, false, false] rfl rfl (any_of HT_.out (by kernel_rfl)) (fun _ _ _ h => h) (Or.inl ⟨by rfl, ?_⟩) ?_ ?_
                   rotate_left
                   ·intro w'
                    go_simp
                    with_reducible rfl
                   rotate_left
                   ·simp only [Act.put, List.setIfInBounds_toArray, List.set_cons_zero, List.set_cons_succ, i64_w, i32_w]
                    rfl
                   refine pure_ (i := 3) (N := some 78) (v := ?_) (a' := ?_) #[true, true, true, true, false, false, false, false, false, false, false] rfl rfl (any_of HT_.out (by kernel_rfl)) (fun _ _ _ h => h) (Or.inl ⟨by rfl, ?_⟩) ?_ ?_
                   rotate_left
                   ·intro w'
                    go_simp
                    with_reducible rfl
                   rotate_left
                   ·simp only [Act.put, List.setIfInBounds_toArray, List.set_cons_zero, List.set_cons_succ, i64_w, i32_w]
                    rfl
                   refine pure_ (i := 5) (N := some 80) (v := ?_) (a' := ?_) #[true, true, true, true, false, true, false, false, false, false, false] rfl rfl (any_of HT_.out (by kernel_rfl)) (fun _ _ _ h => h) (Or.inl ⟨by rfl, ?_⟩) ?_ ?_
                   rotate_left
                   ·intro w'
                    go_simp
                    with_reducible rfl
                   rotate_left
                   ·simp only [Act.put, List.setIfInBounds_toArray, List.set_cons_zero, List.set_cons_succ, i64_w, i32_w]
                    rfl
                   refine pure_ (i := 6) (N := some 81) (v := ?_) (a' := ?_) #[true, true, true, true, false, true, true, false, false, false, false] rfl rfl (any_of HT_.out (by kernel_rfl)) (fun _ _ _ h => h) (Or.inl ⟨by rfl, ?_⟩) ?_ ?_
                   rotate_left
                   ·intro w'
                    go_simp
                    with_reducible rfl
                   rotate_left
                   ·simp only [Act.put, List.setIfInBounds_toArray, List.set_cons_zero, List.set_cons_succ, i64_w, i32_w]
                    rfl
                   refine pure_ (i := 7) (N := some 82) (v := ?_) (a' := ?_) #[true, true, true, true, false, true, true, true, false, false, false] rfl rfl (any_of HT_.out (by kernel_rfl)) (fun _ _ _ h => h) (Or.inl ⟨by rfl, ?_⟩) ?_ ?_
                   rotate_left
                   ·intro w'
                    go_simp
                    with_reducible rfl
                   rotate_left
                   ·simp only [Act.put, List.setIfInBounds_toArray, List.set_cons_zero, List.set_cons_succ, i64_w, i32_w]
                    rfl
                   refine pure_ (i := 8) (N := some 83) (v := ?_) (a' := ?_) #[true, true, true, true, false, true, true, true, true, false, false] rfl rfl (any_of HT_.out (by kernel_rfl)) (fun _ _ _ h => h) (Or.inl ⟨by rfl, ?_⟩) ?_ ?_
                   rotate_left
                   ·intro w'
                    go_simp
                    with_reducible rfl
                   rotate_left
                   ·simp only [Act.put, List.setIfInBounds_toArray, List.set_cons_zero, List.set_cons_succ, i64_w, i32_w]
                    rfl
                   refine take_ (i := 4) (N := some 79) (v := ?_) (a' := ?_) #[true, true, true, true, true, true, true, true, true, false, false] rfl rfl (take_ofW HT_.out HW_.out (by kernel_rfl)) (fun _ _ _ h => h) (Or.inl ⟨by rfl, ?_⟩) hHeld ?_ ?_
                   rotate_left
                   ·rintro w' ⟨s0, s1, s2, s3, s4, s5, s6, s7, s8, s9⟩
                    go_simp
                    with_reducible rfl
                   rotate_left
                   ·simp only [Act.put, List.setIfInBounds_toArray, List.set_cons_zero, List.set_cons_succ, i64_w, i32_w]
                    rfl
                   refine take_ (i := 9) (N := some 84) (v := ?_) (a' := ?_) #[true, true, true, true, true, true, true, true, true, true, false] rfl rfl (take_ofW HT_.out HW_.out (by kernel_rfl)) (fun _ _ _ h => h) (Or.inl ⟨by rfl, ?_⟩) hHeld ?_ ?_
                   rotate_left
                   ·rintro w' ⟨s0, s1, s2, s3, s4, s5, s6, s7, s8, s9⟩
                    go_simp
                    with_reducible rfl
                   rotate_left
                   ·simp only [Act.put, List.setIfInBounds_toArray, List.set_cons_zero, List.set_cons_succ, i64_w, i32_w]
                    rfl
                   refine pure_ (i := 10) (N := some 85) (v := ?_) (a' := ?_) #[true, true, true, true, true, true, true, true, true, true, true] rfl rfl (any_of HT_.out (by kernel_rfl)) (fun _ _ _ h => h) (Or.inl ⟨by rfl, ?_⟩) ?_ ?_
                   rotate_left
                   ·intro w'
                    go_simp
                    with_reducible rfl
                   rotate_left
                   ·simp only [Act.put, List.setIfInBounds_toArray, List.set_cons_zero, List.set_cons_succ, i64_w, i32_w]
                    rfl
                   refine done_ (done_of HT_.out (by kernel_rfl)) ?_
                   go_wp2
                   go_ret3
                   exact ⟨_, by rfl, zz15, zz0, zz13⟩
                  ·rw [if_neg c25] at H
                   have c25b0 : (((rd_T104 x3_2 x15_4).f1).toList == ((rd_T51 l0 x1_2).f3).toList) = false := beq_eq_false_iff_ne.mpr c25
                   have c25b1 : (((rd_T104 x3_2 x15_4).f1).toList != ((rd_T51 l0 x1_2).f3).toList) = true := bne_iff_ne.mpr c25
                   have H' := Aside0.mk H
                   clear H
                   obtain ⟨Ao28, co28, eo28⟩ := Kd.R_slice HO_3.out
                   subst eo28
                   go_wp2
                   have n0_ := Aside0.mk (Kd.R_drew HO_3.out)
                   have n1_ := Aside0.mk (Kept.drew HK.out)
                   have n2_ := Aside0.mk (below_drew1 HB.out)
                   clear HO_3
                   clear HK
                   clear HB
                   have HO_3 := n0_
                   have HK := n1_
                   have HB := n2_
                   clear n0_ n1_ n2_
                   have p264 : 0 ≤ (x15_4 : Int) := of_decide_eq_true (zz5)
                   have q264 : x15_4 < (x3_2.length : Int) := of_decide_eq_true (zz5)
                   obtain ⟨ad264, e264, hx264_0, hx264_1, hx264_2, hx264_3, hx264_4⟩ := at_T104 (Kd.R_reads' HO_3.out).2.2 x15_4 p264 q264
                   cases e264
                   replace p264 := eq_true p264
                   replace q264 := eq_true q264
                   have p265 : 0 ≤ (x1_2 : Int) := of_decide_eq_true (zz5)
                   have q265 : x1_2 < (l0.length : Int) := of_decide_eq_true (zz5)
                   obtain ⟨ad265, e265, hx265_0, hx265_1, hx265_2, hx265_3, hx265_4⟩ := at_T51 (Kd.C_kept_now HR0.out HK.out) x1_2 p265 q265
                   have hw265_4 := hx265_4
                   have hw265_3 := hx265_3
                   have hw265_2 := hx265_2
                   have hw265_1 := hx265_1
                   have hw265_0 := hx265_0
                   obtain rfl : ad259 = ad265 := (by injection e265)
                   replace p265 := eq_true p265
                   replace q265 := eq_true q265
                   refine start_ (n := 11) (S := fun w' => w'.cell? (ad264.add ((x15_4).toNat * 5)) = some (.int .i64 ((rd_T104 x3_2 x15_4).f0.f0)) ∧ w'.cell? ⟨(ad264.add ((x15_4).toNat * 5)).block, (ad264.add ((x15_4).toNat * 5)).off + 1, none⟩ = some (.int .i64 ((rd_T104 x3_2 x15_4).f0.f1)) ∧ w'.cell? ⟨(ad264.add ((x15_4).toNat * 5)).block, (ad264.add ((x15_4).toNat * 5)).off + 2, none⟩ = some (.int .i64 ((rd_T104 x3_2 x15_4).f0.f2)) ∧ w'.cell? ⟨(ad264.add ((x15_4).toNat * 5)).block, (ad264.add ((x15_4).toNat * 5)).off + 3, none⟩ = some (.string ((rd_T104 x3_2 x15_4).f0.f3)) ∧ w'.cell? ⟨(ad264.add ((x15_4).toNat * 5)).block, (ad264.add ((x15_4).toNat * 5)).off + 4, none⟩ = some (.string ((rd_T104 x3_2 x15_4).f1)) ∧ w'.cell? (ad259.add ((x1_2).toNat * 5)) = some (.int .i64 ((rd_T51 l0 x1_2).f0)) ∧ w'.cell? ⟨(ad259.add ((x1_2).toNat * 5)).block, (ad259.add ((x1_2).toNat * 5)).off + 1, none⟩ = some (.int .i64 ((rd_T51 l0 x1_2).f1)) ∧ w'.cell? ⟨(ad259.add ((x1_2).toNat * 5)).block, (ad259.add ((x1_2).toNat * 5)).off + 2, none⟩ = some (.int .i64 ((rd_T51 l0 x1_2).f2)) ∧ w'.cell? ⟨(ad259.add ((x1_2).toNat * 5)).block, (ad259.add ((x1_2).toNat * 5)).off + 3, none⟩ = some (.string ((rd_T51 l0 x1_2).f3)) ∧ w'.cell? ⟨(ad259.add ((x1_2).toNat * 5)).block, (ad259.add ((x1_2).toNat * 5)).off + 4, none⟩ = some (.string ((rd_T51 l0 x1_2).f4))) (ds := []) #[false, false, false, false, false, false, false, false, false, false, false] (by kernel_rfl) rfl rfl ⟨hx264_0, hx264_1, hx264_2, hx264_3, hx264_4, hx265_0, hx265_1, hx265_2, hx265_3, hx265_4⟩ (fun hHeld => ?_); refine with_tabW R3_element.tab11 R3_element.bits11 (fun HT_ HW_ => ?_)
                   generalize wr.drew = w29 at HO_3 HK HB hx264_0 hx264_1 hx264_2 hx264_3 hx264_4 hx265_0 hx265_1 hx265_2 hx265_3 hx265_4 hHeld ⊢
                   refine pure_ (i := 0) (N := some 75) (v := ?_) (a' := ?_) #[true, false, false, false, false, false, false, false, false, false, false] rfl rfl (any_of HT_.out (by kernel_rfl)) (fun _ _ _ h => h) (Or.inl ⟨by rfl, ?_⟩) ?_ ?_
                   rotate_left
                   ·intro w'
                    go_simp
                    with_reducible rfl
                   rotate_left
                   ·simp only [Act.put, List.setIfInBounds_toArray, List.set_cons_zero, List.set_cons_succ, i64_w, i32_w]
                    rfl
                   refine pure_ (i := 1) (N := some 76) (v := ?_) (a' := ?_) #[true, true, false, false, false, false, false, false, false, false, false] rfl rfl (any_of HT_.out (by kernel_rfl)) (fun _ _ _ h => h) (Or.inl ⟨by rfl, ?_⟩) ?_ ?_
                   rotate_left
                   ·intro w'
                    go_simp
                    with_reducible rfl
                   rotate_left
                   ·simp only [Act.put, List.setIfInBounds_toArray, List.set_cons_zero, List.set_cons_succ, i64_w, i32_w]
                    rfl
                   refine pure_ (i := 2) (N := some 77) (v := ?_) (a' := ?_) #[true, true, true, false, false, false, false, false, false, false, false] rfl rfl (any_of HT_.out (by kernel_rfl)) (fun _ _ _ h => h) (Or.inl ⟨by rfl, ?_⟩) ?_ ?_
                   rotate_left
                   ·intro w'
                    go_simp
                    with_reducible rfl
                   rotate_left
                   ·simp only [Act.put, List.setIfInBounds_toArray, List.set_cons_zero, List.set_cons_succ, i64_w, i32_w]
                    rfl
                   refine pure_ (i := 3) (N := some 78) (v := ?_) (a' := ?_) #[true, true, true, true, false, false, false, false, false, false, false] rfl rfl (any_of HT_.out (by kernel_rfl)) (fun _ _ _ h => h) (Or.inl ⟨by rfl, ?_⟩) ?_ ?_
                   rotate_left
                   ·intro w'
                    go_simp
                    with_reducible rfl
                   rotate_left
                   ·simp only [Act.put, List.setIfInBounds_toArray, List.set_cons_zero, List.set_cons_succ, i64_w, i32_w]
                    rfl
                   refine pure_ (i := 5) (N := some 80) (v := ?_) (a' := ?_) #[true, true, true, true, false, true, false, false, false, false, false] rfl rfl (any_of HT_.out (by kernel_rfl)) (fun _ _ _ h => h) (Or.inl ⟨by rfl, ?_⟩) ?_ ?_
                   rotate_left
                   ·intro w'
                    go_simp
                    with_reducible rfl
                   rotate_left
                   ·simp only [Act.put, List.setIfInBounds_toArray, List.set_cons_zero, List.set_cons_succ, i64_w, i32_w]
                    rfl
                   refine pure_ (i := 6) (N := some 81) (v := ?_) (a' := ?_) #[true, true, true, true, false, true, true, false, false, false, false] rfl rfl (any_of HT_.out (by kernel_rfl)) (fun _ _ _ h => h) (Or.inl ⟨by rfl, ?_⟩) ?_ ?_
                   rotate_left
                   ·intro w'
                    go_simp
                    with_reducible rfl
                   rotate_left
                   ·simp only [Act.put, List.setIfInBounds_toArray, List.set_cons_zero, List.set_cons_succ, i64_w, i32_w]
                    rfl
                   refine pure_ (i := 7) (N := some 82) (v := ?_) (a' := ?_) #[true, true, true, true, false, true, true, true, false, false, false] rfl rfl (any_of HT_.out (by kernel_rfl)) (fun _ _ _ h => h) (Or.inl ⟨by rfl, ?_⟩) ?_ ?_
                   rotate_left
                   ·intro w'
                    go_simp
                    with_reducible rfl
                   rotate_left
                   ·simp only [Act.put, List.setIfInBounds_toArray, List.set_cons_zero, List.set_cons_succ, i64_w, i32_w]
                    rfl
                   refine pure_ (i := 8) (N := some 83) (v := ?_) (a' := ?_) #[true, true, true, true, false, true, true, true, true, false, false] rfl rfl (any_of HT_.out (by kernel_rfl)) (fun _ _ _ h => h) (Or.inl ⟨by rfl, ?_⟩) ?_ ?_
                   rotate_left
                   ·intro w'
                    go_simp
                    with_reducible rfl
                   rotate_left
                   ·simp only [Act.put, List.setIfInBounds_toArray, List.set_cons_zero, List.set_cons_succ, i64_w, i32_w]
                    rfl
                   refine take_ (i := 4) (N := some 79) (v := ?_) (a' := ?_) #[true, true, true, true, true, true, true, true, true, false, false] rfl rfl (take_ofW HT_.out HW_.out (by kernel_rfl)) (fun _ _ _ h => h) (Or.inl ⟨by rfl, ?_⟩) hHeld ?_ ?_
                   rotate_left
                   ·rintro w' ⟨s0, s1, s2, s3, s4, s5, s6, s7, s8, s9⟩
                    go_simp
                    with_reducible rfl
                   rotate_left
                   ·simp only [Act.put, List.setIfInBounds_toArray, List.set_cons_zero, List.set_cons_succ, i64_w, i32_w]
                    rfl
                   refine take_ (i := 9) (N := some 84) (v := ?_) (a' := ?_) #[true, true, true, true, true, true, true, true, true, true, false] rfl rfl (take_ofW HT_.out HW_.out (by kernel_rfl)) (fun _ _ _ h => h) (Or.inl ⟨by rfl, ?_⟩) hHeld ?_ ?_
                   rotate_left
                   ·rintro w' ⟨s0, s1, s2, s3, s4, s5, s6, s7, s8, s9⟩
                    go_simp
                    with_reducible rfl
                   rotate_left
                   ·simp only [Act.put, List.setIfInBounds_toArray, List.set_cons_zero, List.set_cons_succ, i64_w, i32_w]
                    rfl
                   refine pure_ (i := 10) (N := some 85) (v := ?_) (a' := ?_) #[true, true, true, true, true, true, true, true, true, true, true] rfl rfl (any_of HT_.out (by kernel_rfl)) (fun _ _ _ h => h) (Or.inl ⟨by rfl, ?_⟩) ?_ ?_
                   rotate_left
                   ·intro w'
                    go_simp
                    with_reducible rfl
                   rotate_left
                   ·simp only [Act.put, List.setIfInBounds_toArray, List.set_cons_zero, List.set_cons_succ, i64_w, i32_w]
                    rfl
                   refine done_ (done_of HT_.out (by kernel_rfl)) ?_
                   go_wp2
                   go_roundg k4
                   case measure => have := HJ5.out; have := HK2.out; have := HJ16.out; have := HK4.out; omega
                   case rel => exact ⟨(wrap64 (x15_4 + 1)), (by rfl), H', ⟨by have := HJ5.out; have := HK2.out; have := HJ16.out; have := HK4.out; omega⟩, ⟨zz15⟩, ⟨zz13⟩, ⟨zz0⟩⟩
                 ·rw [if_neg c24] at H
                  exact absurd H (by simp)
                ·rw [if_neg c23] at H
                 exact absurd H (by simp)
               ·rw [if_neg c22] at H
                exact absurd H (by simp)
              ·rw [if_neg c21] at H
               have c21b0 : decide (x15_4 < (x3_2.length : Int)) = false := decide_eq_false c21
               clear c21
               by_cases c30 : 0 ≤ x1_2
               ·rw [if_pos c30] at H
                have c30b0 : decide (0 ≤ x1_2) = true := decide_eq_true c30
                clear c30
                by_cases c31 : x1_2 < (l0.length : Int)
                ·rw [if_pos c31] at H
                 have c31b0 : decide (x1_2 < (l0.length : Int)) = true := decide_eq_true c31
                 clear c31
                 by_cases c32 : x3_2.length < 2513169434916
                 ·rw [if_pos c32] at H
                  have LMc32 := Aside0.mk c32
                  clear c32
                  obtain ⟨y268, hy268⟩ : ∃ y_ : List (S104), y_ = (x3_2 ++ [(⟨(⟨2, 0, (l3.length : Int), (rd_T51 l0 x1_2).f4⟩ : S41), (rd_T51 l0 x1_2).f3⟩ : S104)]) := ⟨_, rfl⟩
                  replace H : (R3_element.l0 k4 l0 (wrap64 (x1_2 + 1)) y268 a4 (l3.length : Int) ((rd_T51 l0 a1).f3)) = some (r1, r2, r3) := by ((rw [hy268]; with_reducible exact H))
                  have Ny268 := Aside0.mk hy268
                  clear hy268
                  have H' := Aside0.mk H
                  clear H
                  obtain ⟨Ao33, co33, eo33⟩ := Kd.R_slice HO_3.out
                  subst eo33
                  go_wp2
                  have n0_ := Aside0.mk (Kd.R_drew HO_3.out)
                  have n1_ := Aside0.mk (Kept.drew HK.out)
                  have n2_ := Aside0.mk (below_drew1 HB.out)
                  clear HO_3
                  clear HK
                  clear HB
                  have HO_3 := n0_
                  have HK := n1_
                  have HB := n2_
                  clear n0_ n1_ n2_
                  have p266 : 0 ≤ (x1_2 : Int) := of_decide_eq_true (zz5)
                  have q266 : x1_2 < (l0.length : Int) := of_decide_eq_true (zz5)
                  obtain ⟨ad266, e266, hx266_0, hx266_1, hx266_2, hx266_3, hx266_4⟩ := at_T51 (Kd.C_kept_now HR0.out HK.out) x1_2 p266 q266
                  have hw266_4 := hx266_4
                  have hw266_3 := hx266_3
                  have hw266_2 := hx266_2
                  have hw266_1 := hx266_1
                  have hw266_0 := hx266_0
                  obtain rfl : ad259 = ad266 := (by injection e266)
                  replace p266 := eq_true p266
                  replace q266 := eq_true q266
                  have p267 : 0 ≤ (x1_2 : Int) := of_decide_eq_true (zz5)
                  have q267 : x1_2 < (l0.length : Int) := of_decide_eq_true (zz5)
                  obtain ⟨ad267, e267, hx267_0, hx267_1, hx267_2, hx267_3, hx267_4⟩ := at_T51 (Kd.C_kept_now HR0.out HK.out) x1_2 p267 q267
                  have hw267_4 := hx267_4
                  have hw267_3 := hx267_3
                  have hw267_2 := hx267_2
                  have hw267_1 := hx267_1
                  have hw267_0 := hx267_0
                  obtain rfl : ad259 = ad267 := (by injection e267)
                  replace p267 := eq_true p267
                  replace q267 := eq_true q267
                  refine start_ (n := 17) (S := fun w' => w'.cell? (ad259.add ((x1_2).toNat * 5)) = some (.int .i64 ((rd_T51 l0 x1_2).f0)) ∧ w'.cell? ⟨(ad259.add ((x1_2).toNat * 5)).block, (ad259.add ((x1_2).toNat * 5)).off + 1, none⟩ = some (.int .i64 ((rd_T51 l0 x1_2).f1)) ∧ w'.cell? ⟨(ad259.add ((x1_2).toNat * 5)).block, (ad259.add ((x1_2).toNat * 5)).off + 2, none⟩ = some (.int .i64 ((rd_T51 l0 x1_2).f2)) ∧ w'.cell? ⟨(ad259.add ((x1_2).toNat * 5)).block, (ad259.add ((x1_2).toNat * 5)).off + 3, none⟩ = some (.string ((rd_T51 l0 x1_2).f3)) ∧ w'.cell? ⟨(ad259.add ((x1_2).toNat * 5)).block, (ad259.add ((x1_2).toNat * 5)).off + 4, none⟩ = some (.string ((rd_T51 l0 x1_2).f4)) ∧ w'.cell? (ad259.add ((x1_2).toNat * 5)) = some (.int .i64 ((rd_T51 l0 x1_2).f0)) ∧ w'.cell? ⟨(ad259.add ((x1_2).toNat * 5)).block, (ad259.add ((x1_2).toNat * 5)).off + 1, none⟩ = some (.int .i64 ((rd_T51 l0 x1_2).f1)) ∧ w'.cell? ⟨(ad259.add ((x1_2).toNat * 5)).block, (ad259.add ((x1_2).toNat * 5)).off + 2, none⟩ = some (.int .i64 ((rd_T51 l0 x1_2).f2)) ∧ w'.cell? ⟨(ad259.add ((x1_2).toNat * 5)).block, (ad259.add ((x1_2).toNat * 5)).off + 3, none⟩ = some (.string ((rd_T51 l0 x1_2).f3)) ∧ w'.cell? ⟨(ad259.add ((x1_2).toNat * 5)).block, (ad259.add ((x1_2).toNat * 5)).off + 4, none⟩ = some (.string ((rd_T51 l0 x1_2).f4))) (ds := [14, 15]) #[false, false, false, false, false, false, false, false, false, false, false, false, false, false, false, false, false] (by kernel_rfl) rfl rfl ⟨hx266_0, hx266_1, hx266_2, hx266_3, hx266_4, hx267_0, hx267_1, hx267_2, hx267_3, hx267_4⟩ (fun hHeld => ?_); refine with_tabW R3_element.tab13 R3_element.bits13 (fun HT_ HW_ => ?_)
                  generalize wr.drew = w34 at HO_3 HK HB hx266_0 hx266_1 hx266_2 hx266_3 hx266_4 hx267_0 hx267_1 hx267_2 hx267_3 hx267_4 hHeld ⊢
                  refine pure_ (i := 0) (N := some 88) (v := ?_) (a' := ?_) #[true, false, false, false, false, false, false, false, false, false, false, false, false, false, false, false, false] rfl rfl (any_of HT_.out (by kernel_rfl)) (fun _ _ _ h => h) (Or.inl ⟨by rfl, ?_⟩) ?_ ?_
                  rotate_left
                  ·intro w'
                   go_simp
                   with_reducible rfl
                  rotate_left
                  ·simp only [Act.put, List.setIfInBounds_toArray, List.set_cons_zero, List.set_cons_succ, i64_w, i32_w]
                   rfl
                  refine pure_ (i := 1) (N := some 89) (v := ?_) (a' := ?_) #[true, true, false, false, false, false, false, false, false, false, false, false, false, false, false, false, false] rfl rfl (any_of HT_.out (by kernel_rfl)) (fun _ _ _ h => h) (Or.inl ⟨by rfl, ?_⟩) ?_ ?_
                  rotate_left
                  ·intro w'
                   go_simp
                   with_reducible rfl
                  rotate_left
                  ·simp only [Act.put, List.setIfInBounds_toArray, List.set_cons_zero, List.set_cons_succ, i64_w, i32_w]
                   rfl
                  refine pure_ (i := 2) (N := some 90) (v := ?_) (a' := ?_) #[true, true, true, false, false, false, false, false, false, false, false, false, false, false, false, false, false] rfl rfl (any_of HT_.out (by kernel_rfl)) (fun _ _ _ h => h) (Or.inl ⟨by rfl, ?_⟩) ?_ ?_
                  rotate_left
                  ·intro w'
                   go_simp
                   with_reducible rfl
                  rotate_left
                  ·simp only [Act.put, List.setIfInBounds_toArray, List.set_cons_zero, List.set_cons_succ, i64_w, i32_w]
                   rfl
                  refine pure_ (i := 3) (N := some 91) (v := ?_) (a' := ?_) #[true, true, true, true, false, false, false, false, false, false, false, false, false, false, false, false, false] rfl rfl (any_of HT_.out (by kernel_rfl)) (fun _ _ _ h => h) (Or.inl ⟨by rfl, ?_⟩) ?_ ?_
                  rotate_left
                  ·intro w'
                   go_simp
                   with_reducible rfl
                  rotate_left
                  ·simp only [Act.put, List.setIfInBounds_toArray, List.set_cons_zero, List.set_cons_succ, i64_w, i32_w]
                   rfl
                  refine pure_ (i := 4) (N := some 92) (v := ?_) (a' := ?_) #[true, true, true, true, true, false, false, false, false, false, false, false, false, false, false, false, false] rfl rfl (any_of HT_.out (by kernel_rfl)) (fun _ _ _ h => h) (Or.inl ⟨by rfl, ?_⟩) ?_ ?_
                  rotate_left
                  ·intro w'
                   go_simp
                   with_reducible rfl
                  rotate_left
                  ·simp only [Act.put, List.setIfInBounds_toArray, List.set_cons_zero, List.set_cons_succ, i64_w, i32_w]
                   rfl
                  refine pure_ (i := 5) (N := some 93) (v := ?_) (a' := ?_) #[true, true, true, true, true, true, false, false, false, false, false, false, false, false, false, false, false] rfl rfl (any_of HT_.out (by kernel_rfl)) (fun _ _ _ h => h) (Or.inl ⟨by rfl, ?_⟩) ?_ ?_
                  rotate_left
                  ·intro w'
                   go_simp
                   with_reducible rfl
                  rotate_left
                  ·simp only [Act.put, List.setIfInBounds_toArray, List.set_cons_zero, List.set_cons_succ, i64_w, i32_w]
                   rfl
                  refine pure_ (i := 8) (N := some 96) (v := ?_) (a' := ?_) #[true, true, true, true, true, true, false, false, true, false, false, false, false, false, false, false, false] rfl rfl (any_of HT_.out (by kernel_rfl)) (fun _ _ _ h => h) (Or.inl ⟨by rfl, ?_⟩) ?_ ?_
                  rotate_left
                  ·intro w'
                   go_simp
                   with_reducible rfl
                  rotate_left
                  ·simp only [Act.put, List.setIfInBounds_toArray, List.set_cons_zero, List.set_cons_succ, i64_w, i32_w]
                   rfl
                  refine pure_ (i := 9) (N := some 97) (v := ?_) (a' := ?_) #[true, true, true, true, true, true, false, false, true, true, false, false, false, false, false, false, false] rfl rfl (any_of HT_.out (by kernel_rfl)) (fun _ _ _ h => h) (Or.inl ⟨by rfl, ?_⟩) ?_ ?_
                  rotate_left
                  ·intro w'
                   go_simp
                   with_reducible rfl
                  rotate_left
                  ·simp only [Act.put, List.setIfInBounds_toArray, List.set_cons_zero, List.set_cons_succ, i64_w, i32_w]
                   rfl
                  refine pure_ (i := 10) (N := some 98) (v := ?_) (a' := ?_) #[true, true, true, true, true, true, false, false, true, true, true, false, false, false, false, false, false] rfl rfl (any_of HT_.out (by kernel_rfl)) (fun _ _ _ h => h) (Or.inl ⟨by rfl, ?_⟩) ?_ ?_
                  rotate_left
                  ·intro w'
                   go_simp
                   with_reducible rfl
                  rotate_left
                  ·simp only [Act.put, List.setIfInBounds_toArray, List.set_cons_zero, List.set_cons_succ, i64_w, i32_w]
                   rfl
                  refine pure_ (i := 11) (N := some 99) (v := ?_) (a' := ?_) #[true, true, true, true, true, true, false, false, true, true, true, true, false, false, false, false, false] rfl rfl (any_of HT_.out (by kernel_rfl)) (fun _ _ _ h => h) (Or.inl ⟨by rfl, ?_⟩) ?_ ?_
                  rotate_left
                  ·intro w'
                   go_simp
                   with_reducible rfl
                  rotate_left
                  ·simp only [Act.put, List.setIfInBounds_toArray, List.set_cons_zero, List.set_cons_succ, i64_w, i32_w]
                   rfl
                  refine take_ (i := 6) (N := some 94) (v := ?_) (a' := ?_) #[true, true, true, true, true, true, true, false, true, true, true, true, false, false, false, false, false] rfl rfl (take_ofW HT_.out HW_.out (by kernel_rfl)) (fun _ _ _ h => h) (Or.inl ⟨by rfl, ?_⟩) hHeld ?_ ?_
                  rotate_left
                  ·rintro w' ⟨s0, s1, s2, s3, s4, s5, s6, s7, s8, s9⟩
                   go_simp
                   with_reducible rfl
                  rotate_left
                  ·simp only [Act.put, List.setIfInBounds_toArray, List.set_cons_zero, List.set_cons_succ, i64_w, i32_w]
                   rfl
                  refine pure_ (i := 7) (N := some 95) (v := ?_) (a' := ?_) #[true, true, true, true, true, true, true, true, true, true, true, true, false, false, false, false, false] rfl rfl (any_of HT_.out (by kernel_rfl)) (fun _ _ _ h => h) (Or.inl ⟨by rfl, ?_⟩) ?_ ?_
                  rotate_left
                  ·intro w'
                   go_simp
                   with_reducible rfl
                  rotate_left
                  ·simp only [Act.put, List.setIfInBounds_toArray, List.set_cons_zero, List.set_cons_succ, i64_w, i32_w]
                   rfl
                  refine take_ (i := 12) (N := some 100) (v := ?_) (a' := ?_) #[true, true, true, true, true, true, true, true, true, true, true, true, true, false, false, false, false] rfl rfl (take_ofW HT_.out HW_.out (by kernel_rfl)) (fun _ _ _ h => h) (Or.inl ⟨by rfl, ?_⟩) hHeld ?_ ?_
                  rotate_left
                  ·rintro w' ⟨s0, s1, s2, s3, s4, s5, s6, s7, s8, s9⟩
                   go_simp
                   with_reducible rfl
                  rotate_left
                  ·simp only [Act.put, List.setIfInBounds_toArray, List.set_cons_zero, List.set_cons_succ, i64_w, i32_w]
                   rfl
                  refine pure_ (i := 13) (N := some 101) (v := ?_) (a' := ?_) #[true, true, true, true, true, true, true, true, true, true, true, true, true, true, false, false, false] rfl rfl (any_of HT_.out (by kernel_rfl)) (fun _ _ _ h => h) (Or.inl ⟨by rfl, ?_⟩) ?_ ?_
                  rotate_left
                  ·intro w'
                   go_simp
                   with_reducible rfl
                  rotate_left
                  ·simp only [Act.put, List.setIfInBounds_toArray, List.set_cons_zero, List.set_cons_succ, i64_w, i32_w]
                   rfl
                  refine last_ (i := 14) (N := some 102) #[true, true, true, true, true, true, true, true, true, true, true, true, true, true, true, false, false] rfl rfl (one_of HT_.out (by kernel_rfl)) (by decide) (fun K hK => ?_)
                  refine value_ (w1 := ?_) (v := ?_) (by rfl) rfl ?_ ?_
                  rotate_left 2
                  ·go_simp
                   constructor
                   ·rfl
                   ·rfl
                  refine hK.out _ _ ?_
                  clear hK K
                  refine norm_ (a' := ?_) ?_ ?_
                  rotate_left
                  ·show Act.put _ (some 102) _ = _
                   simp only [Act.put, List.setIfInBounds_toArray, List.set_cons_zero, List.set_cons_succ, i64_w, i32_w]
                   rfl
                  refine last_ (i := 15) (N := some 103) #[true, true, true, true, true, true, true, true, true, true, true, true, true, true, true, true, false] rfl rfl (one_of HT_.out (by kernel_rfl)) (by decide) (fun K hK => ?_)
                  refine Kd.R_append_step k104 (w0 := w0) w0.heap.size (by rfl) (.tmp 88) (.tmp 102) 58 104 (.agg #[(.int .i64 0), (.int .i64 0), (.int .i64 0), (.string ⟨#[]⟩), (.string ⟨#[]⟩)]) 56 rfl Tryz.underlying58 info104 rfl (by decide) (by omega) (.slice Ao33 x3_2.length co33) x3_2 (⟨(⟨2, 0, (l3.length : Int), (rd_T51 l0 x1_2).f4⟩ : S41), (rd_T51 l0 x1_2).f3⟩ : S104) [.int .i64 2, .int .i64 0, .int .i64 (l3.length : Int), .string ((rd_T51 l0 x1_2).f4), .string ((rd_T51 l0 x1_2).f3)] (fun k_ => (P3_ k_ ∨ w.heap.size ≤ k_)) (fun _ => False) rfl rfl ?aP (fun _ hk => hk.elim) ?aF ?aO ?aB ?aS ?aL ?_
                  (case aP => exact k104_mkM _ _ _ (⟨(⟨2, 0, (l3.length : Int), (rd_T51 l0 x1_2).f4⟩ : S41), (rd_T51 l0 x1_2).f3⟩ : S104))
                  (case aB => exact (zz0))
                  (case aF => exact (fun k_ hk => (.inr (Nat.le_trans (by exact HK.out.1) hk))))
                  (case aO => exact (zz15))
                  (case aS => exact (below_size (zz0)))
                  (case aL => have := LMc32.out; omega)
                  intro v269 w35 ho hb hg hat
                  rw [← Ny268.out] at ho
                  have n0_ := Aside0.mk (hb)
                  have n1_ := Aside0.mk (Kept.of_grown (S := (fun k_ => P3_ k_)) hg (zz13) (fun k_ e_ => (HO_3.out.1 k_ e_)))
                  have n2_ := Aside0.mk (ho)
                  clear HB
                  clear HK
                  clear HO_3
                  have HB := n0_
                  have HK := n1_
                  have HO270 := n2_
                  clear n0_ n1_ n2_
                  clear ho hb hg hat
                  refine hK.out _ _ ?_
                  clear hK K
                  refine norm_ (a' := ?_) ?_ ?_
                  rotate_left
                  ·show Act.put _ (some 103) _ = _
                   simp only [Act.put, List.setIfInBounds_toArray, List.set_cons_zero, List.set_cons_succ, i64_w, i32_w]
                   rfl
                  refine pure_ (i := 16) (N := some 3) (v := ?_) (a' := ?_) #[true, true, true, true, true, true, true, true, true, true, true, true, true, true, true, true, true] rfl rfl (any_of HT_.out (by kernel_rfl)) (fun _ _ _ h => h) (Or.inl ⟨by rfl, ?_⟩) ?_ ?_
                  rotate_left
                  ·intro w'
                   go_simp
                   with_reducible rfl
                  rotate_left
                  ·simp only [Act.put, List.setIfInBounds_toArray, List.set_cons_zero, List.set_cons_succ, i64_w, i32_w]
                   rfl
                  refine done_ (done_of HT_.out (by kernel_rfl)) ?_
                  go_wp2
                  go_roundg k4
                  case measure => have := HJ5.out; have := HK2.out; have := HJ16.out; have := HK4.out; omega
                  case rel => exact ⟨(wrap64 (x1_2 + 1)), (y268), (by rfl), H', ⟨by have := HJ5.out; have := HK2.out; have := HJ16.out; have := HK4.out; omega⟩, ⟨by (with_reducible repeat (first | apply Kd.R_alloc | apply Kd.R_drewN | apply Kd.R_drew)); exact HO270.out⟩, ⟨zz13⟩, ⟨zz0⟩⟩
                 ·rw [if_neg c32] at H
                  exact absurd H (by simp)
                ·rw [if_neg c31] at H
                 exact absurd H (by simp)
               ·rw [if_neg c30] at H
                exact absurd H (by simp)
           ·replace c20 := Bool.eq_false_iff.mpr c20
            subst c20
            rw [if_neg (show ¬ (false = true) by decide)] at H
            by_cases c36 : x1_2 ≥ (l0.length : Int)
            ·rw [if_pos c36] at H
             have c36b0 : decide ((l0.length : Int) ≤ x1_2) = true := decide_eq_true c36
             clear c36
             simp only [Option.some.injEq, Prod.mk.injEq] at H
             obtain ⟨rfl, rfl, rfl⟩ := H
             go_wp2
             go_ret3
             exact ⟨_, by rfl, zz15, zz0, zz13⟩
            ·rw [if_neg c36] at H
             have c36b0 : decide ((l0.length : Int) ≤ x1_2) = false := decide_eq_false c36
             clear c36
             by_cases c37 : 0 ≤ x1_2
             ·rw [if_pos c37] at H
              have c37b0 : decide (0 ≤ x1_2) = true := decide_eq_true c37
              clear c37
              by_cases c38 : x1_2 < (l0.length : Int)
              ·rw [if_pos c38] at H
               have c38b0 : decide (x1_2 < (l0.length : Int)) = true := decide_eq_true c38
               clear c38
               by_cases c39 : ((rd_T51 l0 x1_2).f0) = 4
               ·rw [if_pos c39] at H
                have c39b0 : (((rd_T51 l0 x1_2).f0) == 4) = true := beq_iff_eq.mpr c39
                have c39b1 : (((rd_T51 l0 x1_2).f0) != 4) = false := bne_eq_false_iff_eq.mpr c39
                clear c39
                simp only [Option.some.injEq, Prod.mk.injEq] at H
                obtain ⟨rfl, rfl, rfl⟩ := H
                have p271 : 0 ≤ (x1_2 : Int) := of_decide_eq_true (zz5)
                have q271 : x1_2 < (l0.length : Int) := of_decide_eq_true (zz5)
                obtain ⟨ad271, e271, hx271_0, hx271_1, hx271_2, hx271_3, hx271_4⟩ := at_T51 (Kd.C_kept_now HR0.out HK.out) x1_2 p271 q271
                obtain rfl : ad259 = ad271 := (by injection e271)
                replace p271 := eq_true p271
                replace q271 := eq_true q271
                go_wp2
                go_ret3
                exact ⟨_, by rfl, zz15, zz0, zz13⟩
               ·rw [if_neg c39] at H
                have c39b0 : (((rd_T51 l0 x1_2).f0) == 4) = false := beq_eq_false_iff_ne.mpr c39
                have c39b1 : (((rd_T51 l0 x1_2).f0) != 4) = true := bne_iff_ne.mpr c39
                have H' := Aside0.mk H
                clear H
                have p271 : 0 ≤ (x1_2 : Int) := of_decide_eq_true (zz5)
                have q271 : x1_2 < (l0.length : Int) := of_decide_eq_true (zz5)
                obtain ⟨ad271, e271, hx271_0, hx271_1, hx271_2, hx271_3, hx271_4⟩ := at_T51 (Kd.C_kept_now HR0.out HK.out) x1_2 p271 q271
                obtain rfl : ad259 = ad271 := (by injection e271)
                replace p271 := eq_true p271
                replace q271 := eq_true q271
                go_wp2
                go_loopg [1, 3] kj16 (fun kq v1 v3 w' => ∃ (x1_4 : Int) (x3_4 : List (S104)), v1 = .int .i64 x1_4 ∧ Aside0 (R3_element.l2 kq l0 x1_4 x3_4 a4 (l3.length : Int) ((rd_T51 l0 a1).f3) = some (r1, r2, r3)) ∧ Aside0 (kq ≤ kj16) ∧ Aside0 (Kd.R k104 104 w' w0.heap.size (fun k_ => (P3_ k_ ∨ w.heap.size ≤ k_)) v3 x3_4) ∧ Aside0 (Kept w w' (fun k_ => P3_ k_)) ∧ Aside0 (Below w0.heap.size w0 w'))
                case atStart => exact ⟨(wrap64 (x1_2 + 1)), (x3_2), (by rfl), H', ⟨Nat.le_refl _⟩, ⟨zz15⟩, ⟨zz13⟩, ⟨zz0⟩⟩
                case round =>
                 clear H'
                 clear c36b0
                 clear c37b0
                 clear c38b0
                 clear c39
                 clear c39b0
                 clear c39b1
                 clear hx271_0
                 clear hx271_1
                 clear hx271_2
                 clear hx271_3
                 clear hx271_4
                 clear p271
                 clear q271
                 obtain ⟨x1_4, x3_4, rfl, HA, HK4, HO_3, HK, HB⟩ := hrel
                 cases gk with
                 | zero => exact absurd HA.out (by simp [R3_element.l2])
                 | succ k4 =>
                  have H := HA.out
                  clear HA
                  simp only [R3_element.l2] at H
                  replace H := Option.bind_eq_some_iff.mp H
                  obtain ⟨⟨t272, t273⟩, A400, H⟩ := H
                  dsimp only at H
                  have A40 := Aside0.mk A400
                  clear A400
                  have HC41 := Aside0.mk H
                  clear H
                  go_upto_if 130 with ((((with_reducible refine gate_callee (f := 33) rfl ?_); refine goesL_ (some 126) rfl rfl Tryz.func33 (by kernel_rfl) rfl #[.slice (some ad259) l0.length c0, .int .i64 x1_4] rfl (zz1) ?_; (with_reducible refine (R3_texts.calls k4 _ _ l0 x1_4 t272 t273 _ ?side1 ?side2 A40.out).mono ?_); (case side1 => exact Kd.C_kept_now HR0.out (zz13)); (case side2 => exact HC0.out); rintro e w' ⟨rfl, ⟨nd, rfl⟩⟩; refine ⟨_, rfl, ?_⟩)))
                  go_cut [3] (fun v3 wc => ∃ (kq : Nat) (x3_40 : List (S104)), Aside0 (R3_element.j5 kq l0 x3_40 a4 (l3.length : Int) ((rd_T51 l0 a1).f3) t273 = some (r1, r2, r3)) ∧ Aside0 (kq ≤ k4) ∧ Aside0 (Kd.R k104 104 wc w0.heap.size (fun k_ => (P3_ k_ ∨ w.heap.size ≤ k_)) v3 x3_40) ∧ Aside0 (Kept w wc (fun k_ => P3_ k_)) ∧ Aside0 (Below w0.heap.size w0 wc))
                  case first =>
                   have H := HC41.out
                   clear HC41
                   by_cases c42 : t272.toList = ([] : List UInt8)
                   ·rw [if_pos c42] at H
                    have c42b0 : (t272.toList == ([] : List UInt8)) = true := beq_iff_eq.mpr c42
                    have c42e : t272.toList.isEmpty = true := by have z_ := c42b0; simpa using z_
                    have c42b1 : (t272.toList != ([] : List UInt8)) = false := bne_eq_false_iff_eq.mpr c42
                    clear c42
                    (rw [c42e])
                    have H' := Aside0.mk H
                    clear H
                    go_wp2
                    go_meet
                    case rel => exact ⟨_, (x3_4), H', ⟨by have := HJ5.out; have := HK2.out; have := HJ16.out; have := HK4.out; omega⟩, ⟨by (with_reducible repeat (apply Kd.R_drewN)); exact HO_3.out⟩, ⟨by repeat (((with_reducible first | exact HK.out | apply Kept.drewN)))⟩, ⟨zz3⟩⟩
                   ·rw [if_neg c42] at H
                    have c42b0 : (t272.toList == ([] : List UInt8)) = false := beq_eq_false_iff_ne.mpr c42
                    have c42e : t272.toList.isEmpty = false := by have z_ := c42b0; simpa using z_
                    have c42b1 : (t272.toList != ([] : List UInt8)) = true := bne_iff_ne.mpr c42
                    (rw [c42e])
                    by_cases c43 : x3_4.length < 2513169434916
                    ·rw [if_pos c43] at H
                     have LMc43 := Aside0.mk c43
                     clear c43
                     obtain ⟨y274, hy274⟩ : ∃ y_ : List (S104), y_ = (x3_4 ++ [(⟨(⟨3, (-1), (l3.length : Int), t272⟩ : S41), (⟨#[]⟩ : ByteArray)⟩ : S104)]) := ⟨_, rfl⟩
                     replace H : (R3_element.j5 k4 l0 y274 a4 (l3.length : Int) ((rd_T51 l0 a1).f3) t273) = some (r1, r2, r3) := by ((rw [hy274]; with_reducible exact H))
                     have Ny274 := Aside0.mk hy274
                     clear hy274
                     have H' := Aside0.mk H
                     clear H
                     go_wp2_with ((((with_reducible refine gate_builtin (b := .append) (xs := #[.tmp 131, .tmp 136]) rfl ?_); at_builtin; refine Kd.R_append k104 (w0 := w0) w0.heap.size rfl (.tmp 131) (.tmp 136) 58 104 (.agg #[(.int .i64 0), (.int .i64 0), (.int .i64 0), (.string ⟨#[]⟩), (.string ⟨#[]⟩)]) 56 rfl Tryz.underlying58 info104 rfl (by decide) (by omega) u3 x3_4 (⟨(⟨3, (-1), (l3.length : Int), t272⟩ : S41), (⟨#[]⟩ : ByteArray)⟩ : S104) [.int .i64 3, .int .i64 (-1), .int .i64 (l3.length : Int), .string t272, .string (⟨#[]⟩ : ByteArray)] (fun k_ => (P3_ k_ ∨ w.heap.size ≤ k_)) (fun _ => False) rfl rfl ?aP (fun _ hk => hk.elim) ?aF ?aO ?aB ?aS ?aL ?_; (case aP => exact k104_mkM _ _ _ (⟨(⟨3, (-1), (l3.length : Int), t272⟩ : S41), (⟨#[]⟩ : ByteArray)⟩ : S104)); (case aB => exact (zz3)); (case aF => exact (fun k_ hk => (.inr (Nat.le_trans (by exact HK.out.1) hk)))); (case aO => exact (by (with_reducible repeat (apply Kd.R_drewN)); exact HO_3.out)); (case aS => exact (below_size (zz3))); (case aL => have := LMc43.out; omega); intro v275 w44 ho hb hg hat; rw [← Ny274.out] at ho; have n0_ := Aside0.mk (hb); have n1_ := Aside0.mk (Kept.of_grown (S := (fun k_ => P3_ k_)) hg (by repeat (((with_reducible first | exact HK.out | apply Kept.drewN)))) (fun k_ e_ => (HO_3.out.1 k_ e_))); have n2_ := Aside0.mk (ho); clear HB; clear HK; clear HO_3; have HB := n0_; have HK := n1_; have HO276 := n2_; clear n0_ n1_ n2_; clear ho hb hg hat)))
                     go_meet
                     case rel => exact ⟨_, (y274), H', ⟨by have := HJ5.out; have := HK2.out; have := HJ16.out; have := HK4.out; omega⟩, ⟨by (with_reducible repeat (first | apply Kd.R_alloc | apply Kd.R_drewN | apply Kd.R_drew)); exact HO276.out⟩, ⟨zz13⟩, ⟨zz0⟩⟩
                    ·rw [if_neg c43] at H
                     exact absurd H (by simp)
                  case rest =>
                   clear HC41
                   obtain ⟨kq, x3_40, HA, HJ40, HO_3, HK, HB⟩ := hcut
                   cases kq with
                   | zero => exact absurd HA.out (by simp [R3_element.j5])
                   | succ kj40 =>
                    have H := HA.out
                    clear HA
                    simp only [R3_element.j5] at H
                    by_cases c45 : t273 ≥ (l0.length : Int)
                    ·rw [if_pos c45] at H
                     have c45b0 : decide ((l0.length : Int) ≤ t273) = true := decide_eq_true c45
                     clear c45
                     simp only [Option.some.injEq, Prod.mk.injEq] at H
                     obtain ⟨rfl, rfl, rfl⟩ := H
                     go_wp2
                     go_ret3
                     exact ⟨_, by rfl, zz15, zz0, zz13⟩
                    ·rw [if_neg c45] at H
                     have c45b0 : decide ((l0.length : Int) ≤ t273) = false := decide_eq_false c45
                     clear c45
                     by_cases c46 : 0 ≤ t273
                     ·rw [if_pos c46] at H
                      have c46b0 : decide (0 ≤ t273) = true := decide_eq_true c46
                      clear c46
                      by_cases c47 : t273 < (l0.length : Int)
                      ·rw [if_pos c47] at H
                       have c47b0 : decide (t273 < (l0.length : Int)) = true := decide_eq_true c47
                       clear c47
                       by_cases c48 : ((rd_T51 l0 t273).f0) = 5
                       ·rw [if_pos c48] at H
                        have c48b0 : (((rd_T51 l0 t273).f0) == 5) = true := beq_iff_eq.mpr c48
                        have c48b1 : (((rd_T51 l0 t273).f0) != 5) = false := bne_eq_false_iff_eq.mpr c48
                        clear c48
                        simp only [Option.some.injEq, Prod.mk.injEq] at H
                        obtain ⟨rfl, rfl, rfl⟩ := H
                        have p277 : 0 ≤ (t273 : Int) := of_decide_eq_true (zz5)
                        have q277 : t273 < (l0.length : Int) := of_decide_eq_true (zz5)
                        obtain ⟨ad277, e277, hx277_0, hx277_1, hx277_2, hx277_3, hx277_4⟩ := at_T51 (Kd.C_kept_now HR0.out HK.out) t273 p277 q277
                        obtain rfl : ad259 = ad277 := (by injection e277)
                        replace p277 := eq_true p277
                        replace q277 := eq_true q277
                        go_wp2
                        have n0_ := Aside0.mk (Kd.R_drew HO_3.out)
                        have n1_ := Aside0.mk (Kept.drew HK.out)
                        have n2_ := Aside0.mk (below_drew1 HB.out)
                        clear HO_3
                        clear HK
                        clear HB
                        have HO_3 := n0_
                        have HK := n1_
                        have HB := n2_
                        clear n0_ n1_ n2_
                        have p278 : 0 ≤ (t273 : Int) := of_decide_eq_true (zz5)
                        have q278 : t273 < (l0.length : Int) := of_decide_eq_true (zz5)
                        obtain ⟨ad278, e278, hx278_0, hx278_1, hx278_2, hx278_3, hx278_4⟩ := at_T51 (Kd.C_kept_now HR0.out HK.out) t273 p278 q278
                        have hw278_4 := hx278_4
                        have hw278_3 := hx278_3
                        have hw278_2 := hx278_2
                        have hw278_1 := hx278_1
                        have hw278_0 := hx278_0
                        obtain rfl : ad259 = ad278 := (by injection e278)
                        replace p278 := eq_true p278
                        replace q278 := eq_true q278
                        refine start_ (n := 13) (S := fun w' => w'.cell? (ad259.add ((t273).toNat * 5)) = some (.int .i64 ((rd_T51 l0 t273).f0)) ∧ w'.cell? ⟨(ad259.add ((t273).toNat * 5)).block, (ad259.add ((t273).toNat * 5)).off + 1, none⟩ = some (.int .i64 ((rd_T51 l0 t273).f1)) ∧ w'.cell? ⟨(ad259.add ((t273).toNat * 5)).block, (ad259.add ((t273).toNat * 5)).off + 2, none⟩ = some (.int .i64 ((rd_T51 l0 t273).f2)) ∧ w'.cell? ⟨(ad259.add ((t273).toNat * 5)).block, (ad259.add ((t273).toNat * 5)).off + 3, none⟩ = some (.string ((rd_T51 l0 t273).f3)) ∧ w'.cell? ⟨(ad259.add ((t273).toNat * 5)).block, (ad259.add ((t273).toNat * 5)).off + 4, none⟩ = some (.string ((rd_T51 l0 t273).f4))) (ds := []) #[false, false, false, false, false, false, false, false, false, false, false, false, false] (by kernel_rfl) rfl rfl ⟨hx278_0, hx278_1, hx278_2, hx278_3, hx278_4⟩ (fun hHeld => ?_); refine with_tabW R3_element.tab27 R3_element.bits27 (fun HT_ HW_ => ?_)
                        generalize wc.drew = w49 at HO_3 HK HB hx278_0 hx278_1 hx278_2 hx278_3 hx278_4 hHeld ⊢
                        refine pure_ (i := 0) (N := some 151) (v := ?_) (a' := ?_) #[true, false, false, false, false, false, false, false, false, false, false, false, false] rfl rfl (any_of HT_.out (by kernel_rfl)) (fun _ _ _ h => h) (Or.inl ⟨by rfl, ?_⟩) ?_ ?_
                        rotate_left
                        ·intro w'
                         go_simp
                         with_reducible rfl
                        rotate_left
                        ·simp only [Act.put, List.setIfInBounds_toArray, List.set_cons_zero, List.set_cons_succ, i64_w, i32_w]
                         rfl
                        refine pure_ (i := 1) (N := some 152) (v := ?_) (a' := ?_) #[true, true, false, false, false, false, false, false, false, false, false, false, false] rfl rfl (any_of HT_.out (by kernel_rfl)) (fun _ _ _ h => h) (Or.inl ⟨by rfl, ?_⟩) ?_ ?_
                        rotate_left
                        ·intro w'
                         go_simp
                         with_reducible rfl
                        rotate_left
                        ·simp only [Act.put, List.setIfInBounds_toArray, List.set_cons_zero, List.set_cons_succ, i64_w, i32_w]
                         rfl
                        refine pure_ (i := 2) (N := some 153) (v := ?_) (a' := ?_) #[true, true, true, false, false, false, false, false, false, false, false, false, false] rfl rfl (any_of HT_.out (by kernel_rfl)) (fun _ _ _ h => h) (Or.inl ⟨by rfl, ?_⟩) ?_ ?_
                        rotate_left
                        ·intro w'
                         go_simp
                         with_reducible rfl
                        rotate_left
                        ·simp only [Act.put, List.setIfInBounds_toArray, List.set_cons_zero, List.set_cons_succ, i64_w, i32_w]
                         rfl
                        refine pure_ (i := 3) (N := some 154) (v := ?_) (a' := ?_) #[true, true, true, true, false, false, false, false, false, false, false, false, false] rfl rfl (any_of HT_.out (by kernel_rfl)) (fun _ _ _ h => h) (Or.inl ⟨by rfl, ?_⟩) ?_ ?_
                        rotate_left
                        ·intro w'
                         go_simp
                         with_reducible rfl
                        rotate_left
                        ·simp only [Act.put, List.setIfInBounds_toArray, List.set_cons_zero, List.set_cons_succ, i64_w, i32_w]
                         rfl
                        refine pure_ (i := 4) (N := some 155) (v := ?_) (a' := ?_) #[true, true, true, true, true, false, false, false, false, false, false, false, false] rfl rfl (any_of HT_.out (by kernel_rfl)) (fun _ _ _ h => h) (Or.inl ⟨by rfl, ?_⟩) ?_ ?_
                        rotate_left
                        ·intro w'
                         go_simp
                         with_reducible rfl
                        rotate_left
                        ·simp only [Act.put, List.setIfInBounds_toArray, List.set_cons_zero, List.set_cons_succ, i64_w, i32_w]
                         rfl
                        refine pure_ (i := 5) (N := some 156) (v := ?_) (a' := ?_) #[true, true, true, true, true, true, false, false, false, false, false, false, false] rfl rfl (any_of HT_.out (by kernel_rfl)) (fun _ _ _ h => h) (Or.inl ⟨by rfl, ?_⟩) ?_ ?_
                        rotate_left
                        ·intro w'
                         go_simp
                         with_reducible rfl
                        rotate_left
                        ·simp only [Act.put, List.setIfInBounds_toArray, List.set_cons_zero, List.set_cons_succ, i64_w, i32_w]
                         rfl
                        refine pure_ (i := 6) (N := some 157) (v := ?_) (a' := ?_) #[true, true, true, true, true, true, true, false, false, false, false, false, false] rfl rfl (any_of HT_.out (by kernel_rfl)) (fun _ _ _ h => h) (Or.inl ⟨by rfl, ?_⟩) ?_ ?_
                        rotate_left
                        ·intro w'
                         go_simp
                         with_reducible rfl
                        rotate_left
                        ·simp only [Act.put, List.setIfInBounds_toArray, List.set_cons_zero, List.set_cons_succ, i64_w, i32_w]
                         rfl
                        refine pure_ (i := 8) (N := some 159) (v := ?_) (a' := ?_) #[true, true, true, true, true, true, true, false, true, false, false, false, false] rfl rfl (any_of HT_.out (by kernel_rfl)) (fun _ _ _ h => h) (Or.inl ⟨by rfl, ?_⟩) ?_ ?_
                        rotate_left
                        ·intro w'
                         go_simp
                         with_reducible rfl
                        rotate_left
                        ·simp only [Act.put, List.setIfInBounds_toArray, List.set_cons_zero, List.set_cons_succ, i64_w, i32_w]
                         rfl
                        refine pure_ (i := 10) (N := some 10) (v := ?_) (a' := ?_) #[true, true, true, true, true, true, true, false, true, false, true, false, false] rfl rfl (any_of HT_.out (by kernel_rfl)) (fun _ _ _ h => h) (Or.inl ⟨by rfl, ?_⟩) ?_ ?_
                        rotate_left
                        ·intro w'
                         go_simp
                         with_reducible rfl
                        rotate_left
                        ·simp only [Act.put, List.setIfInBounds_toArray, List.set_cons_zero, List.set_cons_succ, i64_w, i32_w]
                         rfl
                        refine pure_ (i := 11) (N := some 11) (v := ?_) (a' := ?_) #[true, true, true, true, true, true, true, false, true, false, true, true, false] rfl rfl (any_of HT_.out (by kernel_rfl)) (fun _ _ _ h => h) (Or.inl ⟨by rfl, ?_⟩) ?_ ?_
                        rotate_left
                        ·intro w'
                         go_simp
                         with_reducible rfl
                        rotate_left
                        ·simp only [Act.put, List.setIfInBounds_toArray, List.set_cons_zero, List.set_cons_succ, i64_w, i32_w]
                         rfl
                        refine take_ (i := 7) (N := some 158) (v := ?_) (a' := ?_) #[true, true, true, true, true, true, true, true, true, false, true, true, false] rfl rfl (take_ofW HT_.out HW_.out (by kernel_rfl)) (fun _ _ _ h => h) (Or.inl ⟨by rfl, ?_⟩) hHeld ?_ ?_
                        rotate_left
                        ·rintro w' ⟨s0, s1, s2, s3, s4⟩
                         go_simp
                         with_reducible rfl
                        rotate_left
                        ·simp only [Act.put, List.setIfInBounds_toArray, List.set_cons_zero, List.set_cons_succ, i64_w, i32_w]
                         rfl
                        refine pure_ (i := 9) (N := some 160) (v := ?_) (a' := ?_) #[true, true, true, true, true, true, true, true, true, true, true, true, false] rfl rfl (any_of HT_.out (by kernel_rfl)) (fun _ _ _ h => h) (Or.inl ⟨by rfl, ?_⟩) ?_ ?_
                        rotate_left
                        ·intro w'
                         go_simp
                         with_reducible rfl
                        rotate_left
                        ·simp only [Act.put, List.setIfInBounds_toArray, List.set_cons_zero, List.set_cons_succ, i64_w, i32_w]
                         rfl
                        refine pure_ (i := 12) (N := some 12) (v := ?_) (a' := ?_) #[true, true, true, true, true, true, true, true, true, true, true, true, true] rfl rfl (any_of HT_.out (by kernel_rfl)) (fun _ _ _ h => h) (Or.inl ⟨by rfl, ?_⟩) ?_ ?_
                        rotate_left
                        ·intro w'
                         go_simp
                         with_reducible rfl
                        rotate_left
                        ·simp only [Act.put, List.setIfInBounds_toArray, List.set_cons_zero, List.set_cons_succ, i64_w, i32_w]
                         rfl
                        refine done_ (done_of HT_.out (by kernel_rfl)) ?_
                        go_wp2
                        go_ret3
                        exact ⟨_, by rfl, zz15, zz0, zz13⟩
                       ·rw [if_neg c48] at H
                        have c48b0 : (((rd_T51 l0 t273).f0) == 5) = false := beq_eq_false_iff_ne.mpr c48
                        have c48b1 : (((rd_T51 l0 t273).f0) != 5) = true := bne_iff_ne.mpr c48
                        replace H := Option.bind_eq_some_iff.mp H
                        obtain ⟨⟨t279, t282, t283⟩, A500, H⟩ := H
                        dsimp only at H
                        have A50 := Aside0.mk A500
                        clear A500
                        by_cases c51 : t283 = true
                        ·subst c51
                         rw [if_pos rfl] at H
                         have H' := Aside0.mk H
                         clear H
                         have p277 : 0 ≤ (t273 : Int) := of_decide_eq_true (zz5)
                         have q277 : t273 < (l0.length : Int) := of_decide_eq_true (zz5)
                         obtain ⟨ad277, e277, hx277_0, hx277_1, hx277_2, hx277_3, hx277_4⟩ := at_T51 (Kd.C_kept_now HR0.out HK.out) t273 p277 q277
                         obtain rfl : ad259 = ad277 := (by injection e277)
                         replace p277 := eq_true p277
                         replace q277 := eq_true q277
                         obtain ⟨Ao52, co52, eo52⟩ := Kd.R_slice HO_3.out
                         subst eo52
                         go_wp2_with ((((with_reducible refine gate_callee (f := 35) rfl ?_); refine goesL_ (some 168) rfl rfl Tryz.func35 (by kernel_rfl) rfl #[.slice (some ad259) l0.length c0, .int .i64 t273, .int .i64 (l3.length : Int), .slice Ao52 x3_40.length co52, .int .i64 (wrap64 (a4 + 1))] rfl (zz1) ?_; (with_reducible refine (ih kj40 (by have := HJ5.out; have := HK2.out; have := HJ16.out; have := HK4.out; have := HJ40.out; omega) _ _ l0 t273 (l3.length : Int) (fun k_ => some k_ = (.slice Ao52 x3_40.length co52 : Value).ownBlock) (.slice Ao52 x3_40.length co52) x3_40 (wrap64 (a4 + 1)) t279 t282 true w0 _ ?side1 ?side2 ?side3 ?side4 A50.out).mono ?_); (case side1 => repeat ((with_reducible exact HB.out))); (case side2 => exact Kd.C_kept_call HR0.out (zz13) (fun k_ hs_ => (fun e_ => (HO_3.out.1 k_ e_.symm)) hs_)); (case side3 => exact HC0.out); (case side4 => exact Kd.R_tight rfl HO_3.out); rintro e w53 ⟨v280, rfl, ho0, hb, hkp⟩; refine ⟨_, rfl, ?_⟩; have n0_ := Aside0.mk (Kd.R_mono (ok' := fun k_ => (P3_ k_ ∨ w.heap.size ≤ k_)) ho0 (fun k_ hk_ => Or.elim hk_ (fun hs_ => (HO_3.out.1 k_ (hs_).symm)) (fun hn_ => (.inr (Nat.le_trans (by exact HK.out.1) hn_))))); have n1_ := Aside0.mk (Kept.then_ (S := (fun k_ => P3_ k_)) (zz13) hkp (fun k_ hs_ => (fun e_ => (HO_3.out.1 k_ e_.symm)) hs_)); have n2_ := Aside0.mk (hb); clear HK; clear HB; clear HO_3; have HO281 := n0_; have HK := n1_; have HB := n2_; clear n0_ n1_ n2_; (clear hb); (clear hkp); (clear ho0))))
                         go_roundg kj40
                         case measure => have := HJ5.out; have := HK2.out; have := HJ16.out; have := HK4.out; have := HJ40.out; omega
                         case rel => exact ⟨(t282), (t279), (by rfl), H', ⟨by have := HJ5.out; have := HK2.out; have := HJ16.out; have := HK4.out; have := HJ40.out; omega⟩, ⟨by (with_reducible repeat (first | apply Kd.R_alloc | apply Kd.R_drewN | apply Kd.R_drew)); exact HO281.out⟩, ⟨zz13⟩, ⟨zz0⟩⟩
                        ·replace c51 := Bool.eq_false_iff.mpr c51
                         subst c51
                         rw [if_neg (show ¬ (false = true) by decide)] at H
                         simp only [Option.some.injEq, Prod.mk.injEq] at H
                         obtain ⟨rfl, rfl, rfl⟩ := H
                         have p277 : 0 ≤ (t273 : Int) := of_decide_eq_true (zz5)
                         have q277 : t273 < (l0.length : Int) := of_decide_eq_true (zz5)
                         obtain ⟨ad277, e277, hx277_0, hx277_1, hx277_2, hx277_3, hx277_4⟩ := at_T51 (Kd.C_kept_now HR0.out HK.out) t273 p277 q277
                         obtain rfl : ad259 = ad277 := (by injection e277)
                         replace p277 := eq_true p277
                         replace q277 := eq_true q277
                         obtain ⟨Ao54, co54, eo54⟩ := Kd.R_slice HO_3.out
                         subst eo54
                         go_wp2_with ((((with_reducible refine gate_callee (f := 35) rfl ?_); refine goesL_ (some 168) rfl rfl Tryz.func35 (by kernel_rfl) rfl #[.slice (some ad259) l0.length c0, .int .i64 t273, .int .i64 (l3.length : Int), .slice Ao54 x3_40.length co54, .int .i64 (wrap64 (a4 + 1))] rfl (zz1) ?_; (with_reducible refine (ih kj40 (by have := HJ5.out; have := HK2.out; have := HJ16.out; have := HK4.out; have := HJ40.out; omega) _ _ l0 t273 (l3.length : Int) (fun k_ => some k_ = (.slice Ao54 x3_40.length co54 : Value).ownBlock) (.slice Ao54 x3_40.length co54) x3_40 (wrap64 (a4 + 1)) t279 t282 false w0 _ ?side1 ?side2 ?side3 ?side4 A50.out).mono ?_); (case side1 => repeat ((with_reducible exact HB.out))); (case side2 => exact Kd.C_kept_call HR0.out (zz13) (fun k_ hs_ => (fun e_ => (HO_3.out.1 k_ e_.symm)) hs_)); (case side3 => exact HC0.out); (case side4 => exact Kd.R_tight rfl HO_3.out); rintro e w55 ⟨v280, rfl, ho0, hb, hkp⟩; refine ⟨_, rfl, ?_⟩; have n0_ := Aside0.mk (Kd.R_mono (ok' := fun k_ => (P3_ k_ ∨ w.heap.size ≤ k_)) ho0 (fun k_ hk_ => Or.elim hk_ (fun hs_ => (HO_3.out.1 k_ (hs_).symm)) (fun hn_ => (.inr (Nat.le_trans (by exact HK.out.1) hn_))))); have n1_ := Aside0.mk (Kept.then_ (S := (fun k_ => P3_ k_)) (zz13) hkp (fun k_ hs_ => (fun e_ => (HO_3.out.1 k_ e_.symm)) hs_)); have n2_ := Aside0.mk (hb); clear HK; clear HB; clear HO_3; have HO281 := n0_; have HK := n1_; have HB := n2_; clear n0_ n1_ n2_; (clear hb); (clear hkp); (clear ho0))))
                         go_ret3
                         exact ⟨_, by rfl, by (with_reducible repeat (first | apply Kd.R_alloc | apply Kd.R_drewN | apply Kd.R_drew)); exact HO281.out, zz0, zz13⟩
                      ·rw [if_neg c47] at H
                       exact absurd H (by simp)
                     ·rw [if_neg c46] at H
                      exact absurd H (by simp)
              ·rw [if_neg c38] at H
               exact absurd H (by simp)
             ·rw [if_neg c37] at H
              exact absurd H (by simp)
      ·rw [if_neg c14] at H
       exact absurd H (by simp)
     ·rw [if_neg c13] at H
      exact absurd H (by simp)
    ·rw [if_neg c12] at H
     exact absurd H (by simp)
def R3_with.l0 : Nat → List ByteArray → ByteArray → List ByteArray → Bool → Int → Option (List ByteArray)
 | 0, _, _, _, _, _ => none
 | k + 1, x0, x1, x5, x6, x7 => if x7 < (x0.length : Int) then (if 0 ≤ x7 then (if (rdOf ByteArray.empty x0 x7).toList = x1.toList then (some x0) else (if x6 = true then (if x5.length < 8796093022208 then (R3_with.l0 k x0 x1 (x5 ++ [rdOf ByteArray.empty x0 x7]) x6 (wrap64 (x7 + 1))) else (none)) else (if (Op.bytesLess x1.toList ((rdOf ByteArray.empty x0 x7).toList)) = true then (if x5.length < 8796093022208 then ((some (x5 ++ [x1] : List ByteArray)).bind fun y293 => (if y293.length < 8796093022208 then (R3_with.l0 k x0 x1 (y293 ++ [rdOf ByteArray.empty x0 x7]) true (wrap64 (x7 + 1))) else (none))) else (none)) else (if x5.length < 8796093022208 then (R3_with.l0 k x0 x1 (x5 ++ [rdOf ByteArray.empty x0 x7]) x6 (wrap64 (x7 + 1))) else (none))))) else (none)) else (if x6 = true then (some x5) else (if x5.length < 8796093022208 then (some (x5 ++ [x1])) else (none)))
def R3_with.f (k : Nat) (l0 : List ByteArray) (a1 : ByteArray) : Option (List ByteArray) := R3_with.l0 k l0 a1 ([] : List ByteArray) false 0
theorem R3_with.mono_l : ∀ k, (∀ y0 y1 y2 y3 y4, LeO (R3_with.l0 k y0 y1 y2 y3 y4) (R3_with.l0 (k + 1) y0 y1 y2 y3 y4))
 | 0 => fun _ _ _ _ _ r h => by simp [R3_with.l0] at h
 | k + 1 => by
  have ih0 := R3_with.mono_l k
  ·intro y0 y1 y2 y3 y4
   unfold R3_with.l0
   exact leT
theorem R3_with.mono : ∀ a0 a1 k, LeO (R3_with.f k a0 a1) (R3_with.f (k + 1) a0 a1) := by
 intro a0 a1 k
 have ih0 := R3_with.mono_l k
 unfold R3_with.f
 exact leT
set_option maxHeartbeats 8000000 in
set_option maxRecDepth 100000 in
theorem R3_with.calls (k : Nat) (P0_ : Nat → Prop) (u9000_ : Value) (l0 : List ByteArray) (a1 : ByteArray) (r : List ByteArray) (w0 w : World) (hB : Below w0.heap.size w0 w) (ho0 : Kd.R Kd.string 9 w w0.heap.size P0_ u9000_ l0) (h : R3_with.f k l0 a1 = some r) :
 Calls Tryz.prog 68 #[u9000_, .string a1] w fun e w' => ∃ v0_ : Value, e = .returned (v0_) ∧ Kd.R Kd.string 9 w' w0.heap.size (fun k_ => (P0_ k_ ∨ w.heap.size ≤ k_)) v0_ r ∧ Below w0.heap.size w0 w' ∧ Kept w w' (fun k_ => P0_ k_) := by
 have HO0 := Aside0.mk (show Kd.R Kd.string 9 w w0.heap.size (fun k_ => (P0_ k_ ∨ w.heap.size ≤ k_)) u9000_ l0 from Kd.R_mono ho0 (fun k_ hk => (.inl hk)))
 have HK := Aside0.mk (Kept.refl w (fun k_ => P0_ k_))
 have HW0 := Aside0.mk hB.size
 have HB := Aside0.mk hB
 clear hB
 have H : (R3_with.l0 k l0 a1 ([] : List ByteArray) false 0) = some r := h
 clear h
 have H' := Aside0.mk H
 clear H
 go_enter Tryz.func68, Tryz.ntmps68
 go_wp2
 go_loopg [5, 6, 7] k (fun kq v5 v6 v7 w' => ∃ (x5_1 : List ByteArray) (x6_1 : Bool) (x7_1 : Int), v6 = .bool x6_1 ∧ v7 = .int .i64 x7_1 ∧ Aside0 (R3_with.l0 kq l0 a1 x5_1 x6_1 x7_1 = some r) ∧ Aside0 (kq ≤ k) ∧ Aside0 (Kd.R Kd.string 9 w' w0.heap.size (fun k_ => (P0_ k_ ∨ w.heap.size ≤ k_) ∧ some k_ ≠ (v5 : Value).ownBlock) u9000_ l0) ∧ Aside0 (Kd.R Kd.string 9 w' w0.heap.size (fun k_ => (P0_ k_ ∨ w.heap.size ≤ k_) ∧ some k_ ≠ (u9000_ : Value).ownBlock) v5 x5_1) ∧ Aside0 (Kept w w' (fun k_ => P0_ k_)) ∧ Aside0 (Below w0.heap.size w0 w'))
 case atStart => exact ⟨(([] : List ByteArray)), (false), (0), (by rfl), (by rfl), H', ⟨Nat.le_refl _⟩, ⟨by (with_reducible repeat (first | apply Kd.R_alloc | apply Kd.R_drewN | apply Kd.R_drew)); exact Kd.R_mono HO0.out (fun _ hk => ⟨hk, (by simp [Value.ownBlock])⟩)⟩, ⟨zz33⟩, ⟨zz13⟩, ⟨zz0⟩⟩
 case round =>
  clear H'
  obtain ⟨x5_1, x6_1, x7_1, rfl, rfl, HA, HK1, HO_0, HO_5, HK, HB⟩ := hrel
  cases gk with
  | zero => exact absurd HA.out (by simp [R3_with.l0])
  | succ k1 =>
   have H := HA.out
   clear HA
   simp only [R3_with.l0] at H
   by_cases c3 : x7_1 < (l0.length : Int)
   ·rw [if_pos c3] at H
    have c3b0 : decide (x7_1 < (l0.length : Int)) = true := decide_eq_true c3
    clear c3
    by_cases c4 : 0 ≤ x7_1
    ·rw [if_pos c4] at H
     have c4b0 : decide (0 ≤ x7_1) = true := decide_eq_true c4
     clear c4
     by_cases c5 : (rdOf ByteArray.empty l0 x7_1).toList = a1.toList
     ·rw [if_pos c5] at H
      have c5b0 : ((rdOf ByteArray.empty l0 x7_1).toList == a1.toList) = true := beq_iff_eq.mpr c5
      have c5b1 : ((rdOf ByteArray.empty l0 x7_1).toList != a1.toList) = false := bne_eq_false_iff_eq.mpr c5
      clear c5
      obtain rfl := Option.some.inj H
      obtain ⟨Ao6, co6, eo6⟩ := Kd.R_slice HO_0.out
      subst eo6
      have p287 : 0 ≤ (x7_1 : Int) := of_decide_eq_true (zz5)
      have q287 : x7_1 < (l0.length : Int) := of_decide_eq_true (zz5)
      obtain ⟨ad287, e287, hx287_0⟩ := Kd.at_string (Kd.R_reads' HO_0.out).2.2 x7_1 p287 q287
      cases e287
      replace p287 := eq_true p287
      replace q287 := eq_true q287
      go_wp2
      go_ret
      exact ⟨_, by rfl, by (with_reducible repeat (first | apply Kd.R_alloc | apply Kd.R_drewN | apply Kd.R_drew)); exact Kd.R_mono HO_0.out (fun _ hk => hk.1), zz0, zz13⟩
     ·rw [if_neg c5] at H
      have c5b0 : ((rdOf ByteArray.empty l0 x7_1).toList == a1.toList) = false := beq_eq_false_iff_ne.mpr c5
      have c5b1 : ((rdOf ByteArray.empty l0 x7_1).toList != a1.toList) = true := bne_iff_ne.mpr c5
      by_cases c7 : x6_1 = true
      ·subst c7
       rw [if_pos rfl] at H
       by_cases c8 : x5_1.length < 8796093022208
       ·rw [if_pos c8] at H
        have LMc8 := Aside0.mk c8
        clear c8
        obtain ⟨y289, hy289⟩ : ∃ y_ : List ByteArray, y_ = (x5_1 ++ [rdOf ByteArray.empty l0 x7_1]) := ⟨_, rfl⟩
        replace H : (R3_with.l0 k1 l0 a1 y289 true (wrap64 (x7_1 + 1))) = some r := by ((rw [hy289]; with_reducible exact H))
        have Ny289 := Aside0.mk hy289
        clear hy289
        have H' := Aside0.mk H
        clear H
        obtain ⟨Ao9, co9, eo9⟩ := Kd.R_slice HO_0.out
        subst eo9
        have p287 : 0 ≤ (x7_1 : Int) := of_decide_eq_true (zz5)
        have q287 : x7_1 < (l0.length : Int) := of_decide_eq_true (zz5)
        obtain ⟨ad287, e287, hx287_0⟩ := Kd.at_string (Kd.R_reads' HO_0.out).2.2 x7_1 p287 q287
        cases e287
        replace p287 := eq_true p287
        replace q287 := eq_true q287
        have p288 : 0 ≤ (x7_1 : Int) := of_decide_eq_true (zz5)
        have q288 : x7_1 < (l0.length : Int) := of_decide_eq_true (zz5)
        obtain ⟨ad288, e288, hx288_0⟩ := Kd.at_string (Kd.R_reads' HO_0.out).2.2 x7_1 p288 q288
        obtain rfl : ad287 = ad288 := (by injection e288)
        replace p288 := eq_true p288
        replace q288 := eq_true q288
        go_wp2_with ((((with_reducible refine gate_builtin (b := .append) (xs := #[.tmp 35, .tmp 40]) rfl ?_); at_builtin; refine Kd.R_append Kd.string (w0 := w0) w0.heap.size rfl (.tmp 35) (.tmp 40) 24 9 (.string ⟨#[]⟩) 16 rfl Tryz.underlying24 info9 rfl (by decide) (by omega) u5 x5_1 (rdOf ByteArray.empty l0 x7_1) [.string (rdOf ByteArray.empty l0 x7_1)] (fun k_ => (P0_ k_ ∨ w.heap.size ≤ k_) ∧ some k_ ≠ (.slice (some ad287) l0.length co9 : Value).ownBlock) (fun _ => False) rfl rfl ?aP (fun _ hk => hk.elim) ?aF ?aO ?aB ?aS ?aL ?_; (case aP => exact rfl); (case aB => exact (zz0)); (case aF => exact (fun k_ hk => ⟨(.inr (Nat.le_trans (by exact HK.out.1) hk)), Kd.fresh' (Kd.R_lt (zz16)) k_ hk⟩)); (case aO => exact (zz10)); (case aS => exact (below_size (zz0))); (case aL => have := LMc8.out; omega); intro v290 w10 ho hb hg hat; rw [← Ny289.out] at ho; have n0_ := Aside0.mk (Kd.R_after (ok := (fun k_ => (P0_ k_ ∨ w.heap.size ≤ k_))) (zz16) hg hat); have n1_ := Aside0.mk (hb); have n2_ := Aside0.mk (Kept.of_grown (S := (fun k_ => P0_ k_)) hg (zz13) (fun k_ e_ => (HO_5.out.1 k_ e_).1)); have n3_ := Aside0.mk (ho); clear HO_0; clear HB; clear HK; clear HO_5; have HO_0 := n0_; have HB := n1_; have HK := n2_; have HO291 := n3_; clear n0_ n1_ n2_ n3_; clear ho hb hg hat)))
        go_roundg k1
        case measure => have := HK1.out; omega
        case rel => exact ⟨(y289), (true), (wrap64 (x7_1 + 1)), (by rfl), (by rfl), H', ⟨zz49⟩, ⟨zz16⟩, ⟨by (with_reducible repeat (first | apply Kd.R_alloc | apply Kd.R_drewN | apply Kd.R_drew)); exact HO291.out⟩, ⟨zz13⟩, ⟨zz0⟩⟩
       ·rw [if_neg c8] at H
        exact absurd H (by simp)
      ·replace c7 := Bool.eq_false_iff.mpr c7
       subst c7
       rw [if_neg (show ¬ (false = true) by decide)] at H
       by_cases c11 : (Op.bytesLess a1.toList ((rdOf ByteArray.empty l0 x7_1).toList)) = true
       ·rw [if_pos c11] at H
        have c11b0 : (Op.bytesLess a1.toList ((rdOf ByteArray.empty l0 x7_1).toList)) = true := c11
        clear c11
        by_cases c12 : x5_1.length < 8796093022208
        ·rw [if_pos c12] at H
         have LMc12 := Aside0.mk c12
         clear c12
         obtain ⟨y293, hy293⟩ : ∃ y_ : List ByteArray, y_ = (x5_1 ++ [a1]) := ⟨_, rfl⟩
         replace H : (if y293.length < 8796093022208 then (R3_with.l0 k1 l0 a1 (y293 ++ [rdOf ByteArray.empty l0 x7_1]) true (wrap64 (x7_1 + 1))) else (none)) = some r := by ((have H2_ := (Option.bind_some _ _).symm.trans H; rw [hy293]; with_reducible exact H2_))
         have Ny293 := Aside0.mk hy293
         clear hy293
         by_cases c13 : y293.length < 8796093022208
         ·rw [if_pos c13] at H
          have LMc13 := Aside0.mk c13
          clear c13
          obtain ⟨y297, hy297⟩ : ∃ y_ : List ByteArray, y_ = (y293 ++ [rdOf ByteArray.empty l0 x7_1]) := ⟨_, rfl⟩
          replace H : (R3_with.l0 k1 l0 a1 y297 true (wrap64 (x7_1 + 1))) = some r := by ((rw [hy297]; with_reducible exact H))
          have Ny297 := Aside0.mk hy297
          clear hy297
          have H' := Aside0.mk H
          clear H
          obtain ⟨Ao14, co14, eo14⟩ := Kd.R_slice HO_0.out
          subst eo14
          have p287 : 0 ≤ (x7_1 : Int) := of_decide_eq_true (zz5)
          have q287 : x7_1 < (l0.length : Int) := of_decide_eq_true (zz5)
          obtain ⟨ad287, e287, hx287_0⟩ := Kd.at_string (Kd.R_reads' HO_0.out).2.2 x7_1 p287 q287
          cases e287
          replace p287 := eq_true p287
          replace q287 := eq_true q287
          have p292 : 0 ≤ (x7_1 : Int) := of_decide_eq_true (zz5)
          have q292 : x7_1 < (l0.length : Int) := of_decide_eq_true (zz5)
          obtain ⟨ad292, e292, hx292_0⟩ := Kd.at_string (Kd.R_reads' HO_0.out).2.2 x7_1 p292 q292
          obtain rfl : ad287 = ad292 := (by injection e292)
          replace p292 := eq_true p292
          replace q292 := eq_true q292
          go_wp2_with (first | ((with_reducible refine gate_builtin (b := .append) (xs := #[.tmp 31, .tmp 33]) rfl ?_); at_builtin; refine Kd.R_append Kd.string (w0 := w0) w0.heap.size rfl (.tmp 31) (.tmp 33) 24 9 (.string ⟨#[]⟩) 16 rfl Tryz.underlying24 info9 rfl (by decide) (by omega) u5 x5_1 a1 [.string a1] (fun k_ => (P0_ k_ ∨ w.heap.size ≤ k_) ∧ some k_ ≠ (.slice (some ad287) l0.length co14 : Value).ownBlock) (fun _ => False) rfl rfl ?aP (fun _ hk => hk.elim) ?aF ?aO ?aB ?aS ?aL ?_; (case aP => exact rfl); (case aB => exact (zz0)); (case aF => exact (fun k_ hk => ⟨(.inr (Nat.le_trans (by exact HK.out.1) hk)), Kd.fresh' (Kd.R_lt (zz16)) k_ hk⟩)); (case aO => exact (zz10)); (case aS => exact (below_size (zz0))); (case aL => have := LMc12.out; omega); intro v294 w15 ho hb hg hat; rw [← Ny293.out] at ho; have n0_ := Aside0.mk (Kd.R_after (ok := (fun k_ => (P0_ k_ ∨ w.heap.size ≤ k_))) (zz16) hg hat); have n1_ := Aside0.mk (hb); have n2_ := Aside0.mk (Kept.of_grown (S := (fun k_ => P0_ k_)) hg (zz13) (fun k_ e_ => (HO_5.out.1 k_ e_).1)); have n3_ := Aside0.mk (ho); clear HO_0; clear HB; clear HK; clear HO_5; have HO_0 := n0_; have HB := n1_; have HK := n2_; have HO295 := n3_; clear n0_ n1_ n2_ n3_; clear ho hb hg hat; have p296 : 0 ≤ (x7_1 : Int) := of_decide_eq_true (zz5); have q296 : x7_1 < (l0.length : Int) := of_decide_eq_true (zz5); obtain ⟨ad296, e296, hx296_0⟩ := Kd.at_string (Kd.R_reads' HO_0.out).2.2 x7_1 p296 q296; obtain rfl : ad287 = ad296 := (by injection e296); replace p296 := eq_true p296; replace q296 := eq_true q296) | ((with_reducible refine gate_builtin (b := .append) (xs := #[.tmp 35, .tmp 40]) rfl ?_); at_builtin; refine Kd.R_append Kd.string (w0 := w0) w0.heap.size rfl (.tmp 35) (.tmp 40) 24 9 (.string ⟨#[]⟩) 16 rfl Tryz.underlying24 info9 rfl (by decide) (by omega) v294 y293 (rdOf ByteArray.empty l0 x7_1) [.string (rdOf ByteArray.empty l0 x7_1)] (fun k_ => (P0_ k_ ∨ w.heap.size ≤ k_) ∧ some k_ ≠ (.slice (some ad287) l0.length co14 : Value).ownBlock) (fun _ => False) rfl rfl ?aP (fun _ hk => hk.elim) ?aF ?aO ?aB ?aS ?aL ?_; (case aP => exact rfl); (case aB => exact (zz0)); (case aF => exact (fun k_ hk => ⟨(.inr (Nat.le_trans (by exact HK.out.1) hk)), Kd.fresh' (Kd.R_lt (zz16)) k_ hk⟩)); (case aO => exact (by (with_reducible repeat (first | apply Kd.R_alloc | apply Kd.R_drewN | apply Kd.R_drew)); exact HO295.out)); (case aS => exact (below_size (zz0))); (case aL => have := LMc13.out; omega); intro v298 w16 ho hb hg hat; rw [← Ny297.out] at ho; have n0_ := Aside0.mk (Kd.R_after (ok := (fun k_ => (P0_ k_ ∨ w.heap.size ≤ k_))) (zz16) hg hat); have n1_ := Aside0.mk (hb); have n2_ := Aside0.mk (Kept.of_grown (S := (fun k_ => P0_ k_)) hg (zz13) (fun k_ e_ => (HO295.out.1 k_ e_).1)); have n3_ := Aside0.mk (ho); clear HO_0; clear HB; clear HK; clear HO295; have HO_0 := n0_; have HB := n1_; have HK := n2_; have HO299 := n3_; clear n0_ n1_ n2_ n3_; clear ho hb hg hat))
          go_roundg k1
          case measure => have := HK1.out; omega
          case rel => exact ⟨(y297), (true), (wrap64 (x7_1 + 1)), (by rfl), (by rfl), H', ⟨zz49⟩, ⟨zz16⟩, ⟨by (with_reducible repeat (first | apply Kd.R_alloc | apply Kd.R_drewN | apply Kd.R_drew)); exact HO299.out⟩, ⟨zz13⟩, ⟨zz0⟩⟩
         ·rw [if_neg c13] at H
          exact absurd H (by simp)
        ·rw [if_neg c12] at H
         exact absurd H (by simp)
       ·rw [if_neg c11] at H
        have c11b0 : (Op.bytesLess a1.toList ((rdOf ByteArray.empty l0 x7_1).toList)) = false := by simpa using c11
        clear c11
        by_cases c17 : x5_1.length < 8796093022208
        ·rw [if_pos c17] at H
         have LMc17 := Aside0.mk c17
         clear c17
         obtain ⟨y301, hy301⟩ : ∃ y_ : List ByteArray, y_ = (x5_1 ++ [rdOf ByteArray.empty l0 x7_1]) := ⟨_, rfl⟩
         replace H : (R3_with.l0 k1 l0 a1 y301 false (wrap64 (x7_1 + 1))) = some r := by ((rw [hy301]; with_reducible exact H))
         have Ny301 := Aside0.mk hy301
         clear hy301
         have H' := Aside0.mk H
         clear H
         obtain ⟨Ao18, co18, eo18⟩ := Kd.R_slice HO_0.out
         subst eo18
         have p287 : 0 ≤ (x7_1 : Int) := of_decide_eq_true (zz5)
         have q287 : x7_1 < (l0.length : Int) := of_decide_eq_true (zz5)
         obtain ⟨ad287, e287, hx287_0⟩ := Kd.at_string (Kd.R_reads' HO_0.out).2.2 x7_1 p287 q287
         cases e287
         replace p287 := eq_true p287
         replace q287 := eq_true q287
         have p292 : 0 ≤ (x7_1 : Int) := of_decide_eq_true (zz5)
         have q292 : x7_1 < (l0.length : Int) := of_decide_eq_true (zz5)
         obtain ⟨ad292, e292, hx292_0⟩ := Kd.at_string (Kd.R_reads' HO_0.out).2.2 x7_1 p292 q292
         obtain rfl : ad287 = ad292 := (by injection e292)
         replace p292 := eq_true p292
         replace q292 := eq_true q292
         have p300 : 0 ≤ (x7_1 : Int) := of_decide_eq_true (zz5)
         have q300 : x7_1 < (l0.length : Int) := of_decide_eq_true (zz5)
         obtain ⟨ad300, e300, hx300_0⟩ := Kd.at_string (Kd.R_reads' HO_0.out).2.2 x7_1 p300 q300
         obtain rfl : ad287 = ad300 := (by injection e300)
         replace p300 := eq_true p300
         replace q300 := eq_true q300
         go_wp2_with ((((with_reducible refine gate_builtin (b := .append) (xs := #[.tmp 35, .tmp 40]) rfl ?_); at_builtin; refine Kd.R_append Kd.string (w0 := w0) w0.heap.size rfl (.tmp 35) (.tmp 40) 24 9 (.string ⟨#[]⟩) 16 rfl Tryz.underlying24 info9 rfl (by decide) (by omega) u5 x5_1 (rdOf ByteArray.empty l0 x7_1) [.string (rdOf ByteArray.empty l0 x7_1)] (fun k_ => (P0_ k_ ∨ w.heap.size ≤ k_) ∧ some k_ ≠ (.slice (some ad287) l0.length co18 : Value).ownBlock) (fun _ => False) rfl rfl ?aP (fun _ hk => hk.elim) ?aF ?aO ?aB ?aS ?aL ?_; (case aP => exact rfl); (case aB => exact (zz0)); (case aF => exact (fun k_ hk => ⟨(.inr (Nat.le_trans (by exact HK.out.1) hk)), Kd.fresh' (Kd.R_lt (zz16)) k_ hk⟩)); (case aO => exact (zz10)); (case aS => exact (below_size (zz0))); (case aL => have := LMc17.out; omega); intro v302 w19 ho hb hg hat; rw [← Ny301.out] at ho; have n0_ := Aside0.mk (Kd.R_after (ok := (fun k_ => (P0_ k_ ∨ w.heap.size ≤ k_))) (zz16) hg hat); have n1_ := Aside0.mk (hb); have n2_ := Aside0.mk (Kept.of_grown (S := (fun k_ => P0_ k_)) hg (zz13) (fun k_ e_ => (HO_5.out.1 k_ e_).1)); have n3_ := Aside0.mk (ho); clear HO_0; clear HB; clear HK; clear HO_5; have HO_0 := n0_; have HB := n1_; have HK := n2_; have HO303 := n3_; clear n0_ n1_ n2_ n3_; clear ho hb hg hat)))
         go_roundg k1
         case measure => have := HK1.out; omega
         case rel => exact ⟨(y301), (false), (wrap64 (x7_1 + 1)), (by rfl), (by rfl), H', ⟨zz49⟩, ⟨zz16⟩, ⟨by (with_reducible repeat (first | apply Kd.R_alloc | apply Kd.R_drewN | apply Kd.R_drew)); exact HO303.out⟩, ⟨zz13⟩, ⟨zz0⟩⟩
        ·rw [if_neg c17] at H
         exact absurd H (by simp)
    ·rw [if_neg c4] at H
     exact absurd H (by simp)
   ·rw [if_neg c3] at H
    have c3b0 : decide (x7_1 < (l0.length : Int)) = false := decide_eq_false c3
    clear c3
    by_cases c20 : x6_1 = true
    ·subst c20
     rw [if_pos rfl] at H
     obtain rfl := Option.some.inj H
     obtain ⟨Ao21, co21, eo21⟩ := Kd.R_slice HO_0.out
     subst eo21
     go_wp2
     go_ret
     exact ⟨_, by rfl, by (with_reducible repeat (first | apply Kd.R_alloc | apply Kd.R_drewN | apply Kd.R_drew)); exact Kd.R_mono HO_5.out (fun _ hk => hk.1), zz0, zz13⟩
    ·replace c20 := Bool.eq_false_iff.mpr c20
     subst c20
     rw [if_neg (show ¬ (false = true) by decide)] at H
     by_cases c22 : x5_1.length < 8796093022208
     ·rw [if_pos c22] at H
      have LMc22 := Aside0.mk c22
      clear c22
      obtain ⟨y284, hy284⟩ : ∃ y_ : List ByteArray, y_ = (x5_1 ++ [a1]) := ⟨_, rfl⟩
      replace H : (some y284) = some r := by ((rw [hy284]; with_reducible exact H))
      have Ny284 := Aside0.mk hy284
      clear hy284
      obtain rfl := Option.some.inj H
      obtain ⟨Ao23, co23, eo23⟩ := Kd.R_slice HO_0.out
      subst eo23
      go_wp2_with ((((with_reducible refine gate_builtin (b := .append) (xs := #[.tmp 44, .tmp 46]) rfl ?_); at_builtin; refine Kd.R_append Kd.string (w0 := w0) w0.heap.size rfl (.tmp 44) (.tmp 46) 24 9 (.string ⟨#[]⟩) 16 rfl Tryz.underlying24 info9 rfl (by decide) (by omega) u5 x5_1 a1 [.string a1] (fun k_ => (P0_ k_ ∨ w.heap.size ≤ k_) ∧ some k_ ≠ (.slice Ao23 l0.length co23 : Value).ownBlock) (fun _ => False) rfl rfl ?aP (fun _ hk => hk.elim) ?aF ?aO ?aB ?aS ?aL ?_; (case aP => exact rfl); (case aB => exact (zz0)); (case aF => exact (fun k_ hk => ⟨(.inr (Nat.le_trans (by exact HK.out.1) hk)), Kd.fresh' (Kd.R_lt (zz16)) k_ hk⟩)); (case aO => exact (zz10)); (case aS => exact (below_size (zz0))); (case aL => have := LMc22.out; omega); intro v285 w24 ho hb hg hat; rw [← Ny284.out] at ho; have n0_ := Aside0.mk (Kd.R_after (ok := (fun k_ => (P0_ k_ ∨ w.heap.size ≤ k_))) (zz16) hg hat); have n1_ := Aside0.mk (hb); have n2_ := Aside0.mk (Kept.of_grown (S := (fun k_ => P0_ k_)) hg (zz13) (fun k_ e_ => (HO_5.out.1 k_ e_).1)); have n3_ := Aside0.mk (ho); clear HO_0; clear HB; clear HK; clear HO_5; have HO_0 := n0_; have HB := n1_; have HK := n2_; have HO286 := n3_; clear n0_ n1_ n2_ n3_; clear ho hb hg hat)))
      go_ret
      exact ⟨_, by rfl, by (with_reducible repeat (first | apply Kd.R_alloc | apply Kd.R_drewN | apply Kd.R_drew)); exact Kd.R_mono HO286.out (fun _ hk => hk.1), zz0, zz13⟩
     ·rw [if_neg c22] at H
      exact absurd H (by simp)
def R3_Number.l0 : Nat → List ByteArray → ByteArray → Int → Option (Int)
 | 0, _, _, _ => none
 | k + 1, x0, x1, x5 => if x5 < (x0.length : Int) then (if 0 ≤ x5 then (if (rdOf ByteArray.empty x0 x5).toList = x1.toList then (some x5) else (R3_Number.l0 k x0 x1 (wrap64 (x5 + 1)))) else (none)) else (some (-1))
def R3_Number.f (k : Nat) (l0 : List ByteArray) (a1 : ByteArray) : Option (Int) := R3_Number.l0 k l0 a1 0
theorem R3_Number.mono_l : ∀ k, (∀ y0 y1 y2, LeO (R3_Number.l0 k y0 y1 y2) (R3_Number.l0 (k + 1) y0 y1 y2))
 | 0 => fun _ _ _ r h => by simp [R3_Number.l0] at h
 | k + 1 => by
  have ih0 := R3_Number.mono_l k
  ·intro y0 y1 y2
   unfold R3_Number.l0
   exact leT
theorem R3_Number.mono : ∀ a0 a1 k, LeO (R3_Number.f k a0 a1) (R3_Number.f (k + 1) a0 a1) := by
 intro a0 a1 k
 have ih0 := R3_Number.mono_l k
 unfold R3_Number.f
 exact leT
set_option maxHeartbeats 8000000 in
set_option maxRecDepth 100000 in
theorem R3_Number.calls (k : Nat) (A0 : Option Addr) (c0 : Nat) (l0 : List ByteArray) (a1 : ByteArray) (r : Int) (w : World) (hr0 : Kd.C Kd.string w A0 l0.length l0) (hc0 : l0.length ≤ c0) (h : R3_Number.f k l0 a1 = some r) :
 Calls Tryz.prog 69 #[.slice A0 l0.length c0, .string a1] w fun e w' => e = .returned (.int .i64 r) ∧ Drawn0 w w' := by
 have HR0 := Aside0.mk hr0
 have HC0 := Aside0.mk hc0
 clear hr0 hc0
 have H : (R3_Number.l0 k l0 a1 0) = some r := h
 clear h
 have H' := Aside0.mk H
 clear H
 go_enter Tryz.func69, Tryz.ntmps69
 go_wp2
 go_loopg [5] k (fun kq v5 w' => ∃ (x5_1 : Int), v5 = .int .i64 x5_1 ∧ Aside0 (R3_Number.l0 kq l0 a1 x5_1 = some r) ∧ Aside0 (kq ≤ k) ∧ Drawn0 w w')
 case atStart => exact ⟨(0), (by rfl), H', ⟨Nat.le_refl _⟩, by repeat (exact Drawn0.refl _)⟩
 case round =>
  clear H'
  obtain ⟨x5_1, rfl, HA, HK1, ⟨m1, rfl⟩⟩ := hrel
  cases gk with
  | zero => exact absurd HA.out (by simp [R3_Number.l0])
  | succ k1 =>
   have H := HA.out
   clear HA
   simp only [R3_Number.l0] at H
   revert H; refine X.ite_d (fun c3b0 H => ?_) (fun c3b0 H => ?_)
   by_cases c4 : 0 ≤ x5_1
   rw [if_pos c4] at H
   have c4b0 : decide (0 ≤ x5_1) = true := decide_eq_true c4
   clear c4
   revert H; refine X.ite_b (fun c5b0 c5b1 H => ?_) (fun c5b0 c5b1 H => ?_)
   rotate_left
   rotate_left
   ·rw [if_neg c4] at H
    exact absurd H (by simp)
   ·obtain rfl := Option.some.inj H
    go_wp2
    go_ret
    exact ⟨by rfl, zz4⟩
   all_goals first
   | (obtain rfl := Option.some.inj H
      have pz1 : 0 ≤ (x5_1 : Int) := of_decide_eq_true (zz5)
      have qz1 : x5_1 < (l0.length : Int) := of_decide_eq_true (zz5)
      obtain ⟨adz1, ez1, hxz1⟩ := Kd.at_string HR0.out x5_1 pz1 qz1
      cases ez1
      replace pz1 := eq_true pz1
      replace qz1 := eq_true qz1
      go_wp2
      go_ret
      exact ⟨by rfl, zz4⟩)
   | (have H' := Aside0.mk H
      clear H
      have pz1 : 0 ≤ (x5_1 : Int) := of_decide_eq_true (zz5)
      have qz1 : x5_1 < (l0.length : Int) := of_decide_eq_true (zz5)
      obtain ⟨adz1, ez1, hxz1⟩ := Kd.at_string HR0.out x5_1 pz1 qz1
      cases ez1
      replace pz1 := eq_true pz1
      replace qz1 := eq_true qz1
      go_wp2
      go_roundg k1
      case measure => have := HK1.out; omega
      case rel => exact ⟨(wrap64 (x5_1 + 1)), (by rfl), H', ⟨zz49⟩, zz4⟩)
end Go.Proofs.YtlhhhlimjajnlaaGreat.Q
end
