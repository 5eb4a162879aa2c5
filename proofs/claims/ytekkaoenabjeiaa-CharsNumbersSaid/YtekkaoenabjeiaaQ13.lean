-- Written by a program of this session (wip/tools/myprint.py); Lean checks it.
import Derived.Test.YtekkaoenabjeiaaQ0
import Derived.Test.YtekkaoenabjeiaaQ6
import Derived.Test.YtekkaoenabjeiaaQ7
import Derived.Test.YtekkaoenabjeiaaQ8
namespace Go.Proofs.Ytekkaoenabjeiaa.X
end Go.Proofs.Ytekkaoenabjeiaa.X
namespace Go.Proofs.Ytekkaoenabjeiaa.Q
open Go.RowKit Go.Proofs.YtekkaoenabjeiaaW.PrintWords Go.Proofs.YtekkaoenabjeiaaW.PrintLast Go.Proofs.YtekkaoenabjeiaaW.PrintMore
attribute [local go_sem] max2_int min2_int max_two min_two max_three min_three max_four min_four   -- for this text's walks alone
open Go.Proofs.Ytekkaoenabjeiaa.X
set_option linter.unusedVariables false
set_option linter.unusedSimpArgs false

/-! ### topiarylaw11_CharsNumbers: function 6 -/
mutual
def topiarylaw11_CharsNumbers.j0 : Nat → Int → Bool → Bool → Option (Bool)
  | 0, _, _, _ => none
  | k + 1, x0, x3, x18 => if x18 = true then (if x3 = true then ((chars_Allowed.f k x0).bind fun t175 => (if x0 < 0 then (some ((!t175) == true)) else (some ((!t175) == (decide (x0 > 1114111)))))) else (some false)) else (topiarylaw11_CharsNumbers.l0 k x0 x3 (⟨#[]⟩ : ByteArray) x0)
def topiarylaw11_CharsNumbers.l0 : Nat → Int → Bool → ByteArray → Int → Option (Bool)
  | 0, _, _, _, _ => none
  | k + 1, x0, x3, x4, x5 => if x5 > 0 then ((some (([(wrap64 (48 + (Int.tmod x5 10))) % 256] : List Int) : List Int)).bind fun y176 => (if (strOfNums y176).size + x4.size ≤ 9223372036854775807 then (topiarylaw11_CharsNumbers.l0 k x0 x3 ((strOfNums y176) ++ x4) (wrap64 (Int.tdiv x5 10))) else (none))) else (if x4.toList = ([] : List UInt8) then ((some (([(wrap64 (48 + (Int.tmod x5 10))) % 256] : List Int) : List Int)).bind fun y179 => (if (strOfNums y179).size + x4.size ≤ 9223372036854775807 then (topiarylaw11_CharsNumbers.l0 k x0 x3 ((strOfNums y179) ++ x4) (wrap64 (Int.tdiv x5 10))) else (none))) else (topiarylaw11_CharsNumbers.l1 k x0 x3 x4 (⟨#[]⟩ : ByteArray) x0))
def topiarylaw11_CharsNumbers.l1 : Nat → Int → Bool → ByteArray → ByteArray → Int → Option (Bool)
  | 0, _, _, _, _, _ => none
  | k + 1, x0, x3, x4, x6, x7 => if x7 > 0 then (if 0 ≤ (Int.tmod x7 16) then (if (Int.tmod x7 16) ≤ (wrap64 ((Int.tmod x7 16) + 1)) then (if (wrap64 ((Int.tmod x7 16) + 1)) ≤ 16 then (if ((⟨#[48, 49, 50, 51, 52, 53, 54, 55, 56, 57, 97, 66, 99, 68, 101, 70]⟩ : ByteArray).extract ((Int.tmod x7 16) : Int).toNat ((wrap64 ((Int.tmod x7 16) + 1)) : Int).toNat).size + x6.size ≤ 9223372036854775807 then (topiarylaw11_CharsNumbers.l1 k x0 x3 x4 (((⟨#[48, 49, 50, 51, 52, 53, 54, 55, 56, 57, 97, 66, 99, 68, 101, 70]⟩ : ByteArray).extract ((Int.tmod x7 16) : Int).toNat ((wrap64 ((Int.tmod x7 16) + 1)) : Int).toNat) ++ x6) (wrap64 (Int.tdiv x7 16))) else (none)) else (none)) else (none)) else (none)) else (if x6.toList = ([] : List UInt8) then (if 0 ≤ (Int.tmod x7 16) then (if (Int.tmod x7 16) ≤ (wrap64 ((Int.tmod x7 16) + 1)) then (if (wrap64 ((Int.tmod x7 16) + 1)) ≤ 16 then (if ((⟨#[48, 49, 50, 51, 52, 53, 54, 55, 56, 57, 97, 66, 99, 68, 101, 70]⟩ : ByteArray).extract ((Int.tmod x7 16) : Int).toNat ((wrap64 ((Int.tmod x7 16) + 1)) : Int).toNat).size + x6.size ≤ 9223372036854775807 then (topiarylaw11_CharsNumbers.l1 k x0 x3 x4 (((⟨#[48, 49, 50, 51, 52, 53, 54, 55, 56, 57, 97, 66, 99, 68, 101, 70]⟩ : ByteArray).extract ((Int.tmod x7 16) : Int).toNat ((wrap64 ((Int.tmod x7 16) + 1)) : Int).toNat) ++ x6) (wrap64 (Int.tdiv x7 16))) else (none)) else (none)) else (none)) else (none)) else (if 2 + x4.size ≤ 9223372036854775807 then (if ((⟨#[38, 35]⟩ : ByteArray) ++ x4).size + 1 ≤ 9223372036854775807 then ((chars_Entity.f k (((⟨#[38, 35]⟩ : ByteArray) ++ x4) ++ (⟨#[59]⟩ : ByteArray)) 0).bind fun bt182 => (if 4 + x6.size ≤ 9223372036854775807 then (if ((⟨#[120, 38, 35, 120]⟩ : ByteArray) ++ x6).size + 1 ≤ 9223372036854775807 then ((chars_Entity.f k (((⟨#[120, 38, 35, 120]⟩ : ByteArray) ++ x6) ++ (⟨#[59]⟩ : ByteArray)) 1).bind fun bt184 => ((chars_Allowed.f k x0).bind fun t186 => (if t186 = true then (if x3 = true then ((chars_Encode.f k x0).bind fun t187 => (if bt182.1.toList = t187.toList then (if bt184.1.toList = bt182.1.toList then (if bt182.2 = (wrap64 ((x4.size : Int) + 3)) then (some (bt184.2 == (wrap64 ((x6.size : Int) + 4)))) else (some false)) else (some false)) else (some false))) else (some false)) else (if x3 = true then (if bt182.1.toList = ([] : List UInt8) then (if bt184.1.toList = ([] : List UInt8) then (some ((wrap64 (bt182.2 + bt184.2)) == 0)) else (some false)) else (some false)) else (some false))))) else (none)) else (none))) else (none)) else (none)))
end
def topiarylaw11_CharsNumbers.f (k : Nat) (a0 : Int) : Option (Bool) := (topiarylaw11_awake.f k).bind fun t174 => (if a0 < 0 then (topiarylaw11_CharsNumbers.j0 k a0 t174 true) else (topiarylaw11_CharsNumbers.j0 k a0 t174 (decide (a0 > 99999999))))
theorem topiarylaw11_CharsNumbers.mono_l : ∀ k, (∀ y0 y1 y2, LeO (topiarylaw11_CharsNumbers.j0 k y0 y1 y2) (topiarylaw11_CharsNumbers.j0 (k + 1) y0 y1 y2)) ∧ (∀ y0 y1 y2 y3, LeO (topiarylaw11_CharsNumbers.l0 k y0 y1 y2 y3) (topiarylaw11_CharsNumbers.l0 (k + 1) y0 y1 y2 y3)) ∧ (∀ y0 y1 y2 y3 y4, LeO (topiarylaw11_CharsNumbers.l1 k y0 y1 y2 y3 y4) (topiarylaw11_CharsNumbers.l1 (k + 1) y0 y1 y2 y3 y4))
  | 0 => ⟨fun _ _ _ r h => by simp [topiarylaw11_CharsNumbers.j0] at h, fun _ _ _ _ r h => by simp [topiarylaw11_CharsNumbers.l0] at h, fun _ _ _ _ _ r h => by simp [topiarylaw11_CharsNumbers.l1] at h⟩
  | k + 1 => by
    obtain ⟨ih0, ih1, ih2⟩ := topiarylaw11_CharsNumbers.mono_l k
    refine ⟨?_, ?_, ?_⟩
    · intro y0 y1 y2
      unfold topiarylaw11_CharsNumbers.j0
      repeat' first
      | (with_reducible exact ih0 _ _ _)
      | (with_reducible exact ih1 _ _ _ _)
      | (with_reducible exact ih2 _ _ _ _ _)
      | (with_reducible exact chars_Allowed.mono _ _)
      | (with_reducible exact chars_Encode.mono _ _)
      | (with_reducible exact chars_Entity.mono _ _ _)
      | (with_reducible exact topiarylaw11_awake.mono _)
      | (with_reducible exact LeO.refl _)
      | (with_reducible exact LeO.none _)
      | (with_reducible refine LeO.ite ?_ ?_)
      | (with_reducible refine LeO.bind ?_ (fun _ => ?_))
      | exact ih0 _ _ _
      | exact ih1 _ _ _ _
      | exact ih2 _ _ _ _ _
      | exact chars_Allowed.mono _ _
      | exact chars_Encode.mono _ _
      | exact chars_Entity.mono _ _ _
      | exact topiarylaw11_awake.mono _
      | exact LeO.none _
      | refine LeO.ite ?_ ?_
      | refine LeO.bind ?_ (fun _ => ?_)
    · intro y0 y1 y2 y3
      unfold topiarylaw11_CharsNumbers.l0
      repeat' first
      | (with_reducible exact ih0 _ _ _)
      | (with_reducible exact ih1 _ _ _ _)
      | (with_reducible exact ih2 _ _ _ _ _)
      | (with_reducible exact chars_Allowed.mono _ _)
      | (with_reducible exact chars_Encode.mono _ _)
      | (with_reducible exact chars_Entity.mono _ _ _)
      | (with_reducible exact topiarylaw11_awake.mono _)
      | (with_reducible exact LeO.refl _)
      | (with_reducible exact LeO.none _)
      | (with_reducible refine LeO.ite ?_ ?_)
      | (with_reducible refine LeO.bind ?_ (fun _ => ?_))
      | exact ih0 _ _ _
      | exact ih1 _ _ _ _
      | exact ih2 _ _ _ _ _
      | exact chars_Allowed.mono _ _
      | exact chars_Encode.mono _ _
      | exact chars_Entity.mono _ _ _
      | exact topiarylaw11_awake.mono _
      | exact LeO.none _
      | refine LeO.ite ?_ ?_
      | refine LeO.bind ?_ (fun _ => ?_)
    · intro y0 y1 y2 y3 y4
      unfold topiarylaw11_CharsNumbers.l1
      repeat' first
      | (with_reducible exact ih0 _ _ _)
      | (with_reducible exact ih1 _ _ _ _)
      | (with_reducible exact ih2 _ _ _ _ _)
      | (with_reducible exact chars_Allowed.mono _ _)
      | (with_reducible exact chars_Encode.mono _ _)
      | (with_reducible exact chars_Entity.mono _ _ _)
      | (with_reducible exact topiarylaw11_awake.mono _)
      | (with_reducible exact LeO.refl _)
      | (with_reducible exact LeO.none _)
      | (with_reducible refine LeO.ite ?_ ?_)
      | (with_reducible refine LeO.bind ?_ (fun _ => ?_))
      | exact ih0 _ _ _
      | exact ih1 _ _ _ _
      | exact ih2 _ _ _ _ _
      | exact chars_Allowed.mono _ _
      | exact chars_Encode.mono _ _
      | exact chars_Entity.mono _ _ _
      | exact topiarylaw11_awake.mono _
      | exact LeO.none _
      | refine LeO.ite ?_ ?_
      | refine LeO.bind ?_ (fun _ => ?_)
theorem topiarylaw11_CharsNumbers.mono : ∀ a0 k, LeO (topiarylaw11_CharsNumbers.f k a0) (topiarylaw11_CharsNumbers.f (k + 1) a0) := by
  intro a0 k
  obtain ⟨ih0, ih1, ih2⟩ := topiarylaw11_CharsNumbers.mono_l k
  unfold topiarylaw11_CharsNumbers.f
  repeat' first
      | (with_reducible exact ih0 _ _ _)
      | (with_reducible exact ih1 _ _ _ _)
      | (with_reducible exact ih2 _ _ _ _ _)
      | (with_reducible exact chars_Allowed.mono _ _)
      | (with_reducible exact chars_Encode.mono _ _)
      | (with_reducible exact chars_Entity.mono _ _ _)
      | (with_reducible exact topiarylaw11_awake.mono _)
      | (with_reducible exact LeO.refl _)
      | (with_reducible exact LeO.none _)
      | (with_reducible refine LeO.ite ?_ ?_)
      | (with_reducible refine LeO.bind ?_ (fun _ => ?_))
      | exact ih0 _ _ _
      | exact ih1 _ _ _ _
      | exact ih2 _ _ _ _ _
      | exact chars_Allowed.mono _ _
      | exact chars_Encode.mono _ _
      | exact chars_Entity.mono _ _ _
      | exact topiarylaw11_awake.mono _
      | exact LeO.none _
      | refine LeO.ite ?_ ?_
      | refine LeO.bind ?_ (fun _ => ?_)
set_option maxHeartbeats 8000000 in
set_option maxRecDepth 100000 in
theorem topiarylaw11_CharsNumbers.calls (k : Nat) (a0 : Int) (r : Bool) (w : World) (h : topiarylaw11_CharsNumbers.f k a0 = some r) :
    Calls Try.prog 6 #[.int .i64 a0] w fun e w' => e = .returned (.bool r) ∧ Below w.heap.size w w' := by
  have HB := Aside0.mk (Below.refl w.heap.size w)
  have H : ((topiarylaw11_awake.f k).bind fun t174 => (if a0 < 0 then (topiarylaw11_CharsNumbers.j0 k a0 t174 true) else (topiarylaw11_CharsNumbers.j0 k a0 t174 (decide (a0 > 99999999))))) = some r := h
  clear h
  replace H := Option.bind_eq_some_iff.mp H
  obtain ⟨t174, A20, H⟩ := H
  replace H : (if a0 < 0 then (topiarylaw11_CharsNumbers.j0 k a0 t174 true) else (topiarylaw11_CharsNumbers.j0 k a0 t174 (decide (a0 > 99999999)))) = some r := H
  have A2 := Aside0.mk A20
  clear A20
  have HC3 := Aside0.mk H
  clear H
  go_enter Try.func6, Try.ntmps6
  go_upto_region 2 with (first | ((with_reducible refine gate_callee (f := 16) rfl ?_); refine goesL_ (some 12) rfl rfl Try.func16 (by kernel_rfl) rfl #[] rfl (by (try simp only [List.map_toArray, List.map_cons, List.map_nil]); first | done | rfl | (simp only [List.length_drop, List.length_take]; rfl)) ?_; (with_reducible refine (topiarylaw11_awake.calls k  t174 _ A2.out).mono ?_); rintro e w4 ⟨rfl, hb⟩; refine ⟨_, rfl, ?_⟩; have n0_ := Aside0.mk (below_step (by repeat (first | (with_reducible first | exact HB.out | apply below_alloc | apply pw_below_drewN | apply below_drew1) | exact HB.out)) hb); clear HB; have HB := n0_; clear n0_; (try clear hb); (try clear hb2); (try clear hk); (try clear hi)))
  (try simp only [Act.put, List.setIfInBounds_toArray, List.set_cons_zero, List.set_cons_succ])
  go_cut [18] (fun v18 wc => ∃ (kq : Nat) (x18_2 : Bool), v18 = .bool x18_2 ∧ Aside0 (topiarylaw11_CharsNumbers.j0 kq a0 t174 x18_2 = some r) ∧ Aside0 (kq ≤ k) ∧ Aside0 (Below w.heap.size w wc))
  case first =>
    have H := HC3.out
    clear HC3
    by_cases c5 : a0 < 0
    · rw [if_pos c5] at H
      have c5b0 : decide (a0 < 0) = true := decide_eq_true c5
      clear c5
      (first | rw [c5b0] | (simp only [i64_w, i32_w]; rw [c5b0]) | skip)
      have H' := Aside0.mk H
      clear H
      go_wp2
      go_meet
      case rel => exact ⟨_, (true), (by first | rfl | (simp; done) | (simp [*]; done)), H', ⟨by first | omega | exact Nat.le_refl _⟩, ⟨by repeat (first | (with_reducible first | exact HB.out | apply below_alloc | apply pw_below_drewN | apply below_drew1) | exact HB.out)⟩⟩
    · rw [if_neg c5] at H
      have c5b0 : decide (a0 < 0) = false := decide_eq_false c5
      clear c5
      (first | rw [c5b0] | (simp only [i64_w, i32_w]; rw [c5b0]) | skip)
      have H' := Aside0.mk H
      clear H
      go_wp2
      go_meet
      case rel => exact ⟨_, (decide (a0 > 99999999)), (by first | rfl | (simp; done) | (simp [*]; done)), H', ⟨by first | omega | exact Nat.le_refl _⟩, ⟨by repeat (first | (with_reducible first | exact HB.out | apply below_alloc | apply pw_below_drewN | apply below_drew1) | exact HB.out)⟩⟩
  case rest =>
    clear HC3
    try clear c1
    try clear p2
    try clear c5
    try clear c5b0
    obtain ⟨kq, x18_2, rfl, HA, HJ2, HB⟩ := hcut
    cases kq with
    | zero => exact absurd HA.out (by simp [topiarylaw11_CharsNumbers.j0])
    | succ kj2 =>
      have H := HA.out
      clear HA
      simp only [topiarylaw11_CharsNumbers.j0] at H
      by_cases c6 : x18_2 = true
      · subst c6
        have H1 : (if t174 = true then ((chars_Allowed.f kj2 a0).bind fun t175 => (if a0 < 0 then (some ((!t175) == true)) else (some ((!t175) == (decide (a0 > 1114111)))))) else (some false)) = some r := by rw [if_pos rfl] at H; exact H
        clear H
        have H := H1
        clear H1
        by_cases c7 : t174 = true
        · subst c7
          have H1 : ((chars_Allowed.f kj2 a0).bind fun t175 => (if a0 < 0 then (some ((!t175) == true)) else (some ((!t175) == (decide (a0 > 1114111)))))) = some r := by rw [if_pos rfl] at H; exact H
          clear H
          have H := H1
          clear H1
          replace H := Option.bind_eq_some_iff.mp H
          obtain ⟨t175, A80, H⟩ := H
          replace H : (if a0 < 0 then (some ((!t175) == true)) else (some ((!t175) == (decide (a0 > 1114111))))) = some r := H
          have A8 := Aside0.mk A80
          clear A80
          by_cases c9 : a0 < 0
          · rw [if_pos c9] at H
            have c9b0 : decide (a0 < 0) = true := decide_eq_true c9
            clear c9
            obtain rfl := Option.some.inj H
            go_wp2_with (first | (go_at_call 24; (with_reducible refine (chars_Allowed.calls kj2 a0 t175 _ A8.out).mono ?_); rintro e w' ⟨rfl, ⟨nd, rfl⟩⟩))
            go_ret
            exact ⟨by first | rfl | (simp [errW_none, errW_some] <;> rfl) | (simp [*, errW_none, errW_some] <;> rfl), by repeat (first | (with_reducible first | exact HB.out | apply below_alloc | apply pw_below_drewN | apply below_drew1) | exact HB.out)⟩
          · rw [if_neg c9] at H
            have c9b0 : decide (a0 < 0) = false := decide_eq_false c9
            clear c9
            obtain rfl := Option.some.inj H
            go_wp2_with (first | (go_at_call 24; (with_reducible refine (chars_Allowed.calls kj2 a0 t175 _ A8.out).mono ?_); rintro e w' ⟨rfl, ⟨nd, rfl⟩⟩))
            go_ret
            exact ⟨by first | rfl | (simp [errW_none, errW_some] <;> rfl) | (simp [*, errW_none, errW_some] <;> rfl), by repeat (first | (with_reducible first | exact HB.out | apply below_alloc | apply pw_below_drewN | apply below_drew1) | exact HB.out)⟩
        · replace c7 := Bool.eq_false_iff.mpr c7
          subst c7
          have H1 : (some false) = some r := by rw [if_neg (show ¬ (false = true) by decide)] at H; exact H
          clear H
          have H := H1
          clear H1
          obtain rfl := Option.some.inj H
          go_wp2
          go_ret
          exact ⟨by first | rfl | (simp [errW_none, errW_some] <;> rfl) | (simp [*, errW_none, errW_some] <;> rfl), by repeat (first | (with_reducible first | exact HB.out | apply below_alloc | apply pw_below_drewN | apply below_drew1) | exact HB.out)⟩
      · replace c6 := Bool.eq_false_iff.mpr c6
        subst c6
        have H1 : (topiarylaw11_CharsNumbers.l0 kj2 a0 t174 (⟨#[]⟩ : ByteArray) a0) = some r := by rw [if_neg (show ¬ (false = true) by decide)] at H; exact H
        clear H
        have H := H1
        clear H1
        have H' := Aside0.mk H
        clear H
        go_wp2
        go_loopg [4, 5] kj2 (fun kq v4 v5 w' => ∃ (x4_2 : ByteArray) (x5_2 : Int), v4 = .string x4_2 ∧ v5 = .int .i64 x5_2 ∧ Aside0 (topiarylaw11_CharsNumbers.l0 kq a0 t174 x4_2 x5_2 = some r) ∧ Aside0 (kq ≤ kj2) ∧ Aside0 (Below w.heap.size w w'))
        case atStart => exact ⟨((⟨#[]⟩ : ByteArray)), (a0), (by first | rfl | (simp; done) | (simp [*]; done)), (by first | rfl | (simp; done) | (simp [*]; done)), H', ⟨Nat.le_refl _⟩, ⟨by repeat (first | (with_reducible first | exact HB.out | apply below_alloc | apply pw_below_drewN | apply below_drew1) | exact HB.out)⟩⟩
        case round =>
          clear H'
          try clear c1
          try clear p2
          try clear c5
          try clear c5b0
          try clear c6
          try clear c7
          try clear c9
          try clear c9b0
          try clear p2
          obtain ⟨x4_2, x5_2, rfl, rfl, HA, HK2, HB⟩ := hrel
          cases gk with
          | zero => exact absurd HA.out (by simp [topiarylaw11_CharsNumbers.l0])
          | succ k2 =>
            have H := HA.out
            clear HA
            simp only [topiarylaw11_CharsNumbers.l0] at H
            by_cases c10 : x5_2 > 0
            · rw [if_pos c10] at H
              have c10b0 : decide (0 < x5_2) = true := decide_eq_true c10
              clear c10
              obtain ⟨y176, hy176⟩ : ∃ y_ : List Int, y_ = (([(wrap64 (48 + (Int.tmod x5_2 10))) % 256] : List Int)) := ⟨_, rfl⟩
              replace H : (if (strOfNums y176).size + x4_2.size ≤ 9223372036854775807 then (topiarylaw11_CharsNumbers.l0 k2 a0 t174 ((strOfNums y176) ++ x4_2) (wrap64 (Int.tdiv x5_2 10))) else (none)) = some r := by first | (rw [hy176]; with_reducible exact H) | (have H2_ := (Option.bind_some _ _).symm.trans H; rw [hy176]; with_reducible exact H2_) | (have H2_ := (Option.bind_some _ _).symm.trans H; with_reducible exact H2_) | with_reducible exact H | (rw [hy176]; exact H) | exact H
              have Ny176 := Aside0.mk hy176
              clear hy176
              by_cases c11 : (strOfNums y176).size + x4_2.size ≤ 9223372036854775807
              · rw [if_pos c11] at H
                have c11b0 := eq_true c11
                have c11b1 : decide ((strOfNums y176).size + x4_2.size ≤ 9223372036854775807) = true := decide_eq_true c11
                try have c11b2 : (9223372036854775807 < (strOfNums y176).size + x4_2.size) = False := eq_false (Nat.not_lt.2 c11)
                have H' := Aside0.mk H
                clear H
                go_wp2_with (first | ((with_reducible refine gate_dst (N := 45) rfl ?_); (try (refine gate_guard (by rfl) ?_; dsimp only)); refine Kd.R_lit (Kd.int .u8) _ 5 ?hg (N := 45) ?hd (xs := ([(wrap64 (48 + (Int.tmod x5_2 10))) % 256] : List Int)) (inner := [.int .u8 ((wrap64 (48 + (Int.tmod x5_2 10))) % 256)]) (ok := fun _ => True) (okp := fun _ => True) ?hr ?hp (fun _ hk => hk) trivial (Below.refl _ _) (Nat.le_refl _) (by simp) ?_; (case hd => rfl); (case hg => rfl); (case hr => first | (go_simp; done) | (go_simp; rfl)); (case hp => exact (Reps.one (show Kd.M (Kd.int .u8) _ _ _ ((wrap64 (48 + (Int.tmod x5_2 10))) % 256) [.int .u8 ((wrap64 (48 + (Int.tmod x5_2 10))) % 256)] from rfl) (Reps.none _ _))); intro v177 w12 ho13 hb hg_ hnew_; clear hg_ hnew_; (first | rw [← Ny176.out] at ho13 | (simp only [Int.reduceToNat] at ho13; rw [← Ny176.out] at ho13)); have n0_ := Aside0.mk (Kd.R_lower ho13 (below_size (by repeat (first | (with_reducible first | exact HB.out | apply below_alloc | apply pw_below_drewN | apply below_drew1) | exact HB.out)))); have n1_ := Aside0.mk (below_step (by repeat (first | (with_reducible first | exact HB.out | apply below_alloc | apply pw_below_drewN | apply below_drew1) | exact HB.out)) hb); clear HB; have HO178 := n0_; have HB := n1_; clear n0_ n1_; clear hb ho13; have hcv14 := own_string (P := Try.prog) Try.underlying34 Try.underlying5 Try.underlying9 (Kd.own_of_R HO178.out)))
                go_roundg k2
                case measure => have := HJ2.out; have := HK2.out; omega
                case rel => exact ⟨((strOfNums y176) ++ x4_2), (wrap64 (Int.tdiv x5_2 10)), (by first | rfl | (simp; done) | (simp [*]; done)), (by first | rfl | (simp; done) | (simp [*]; done)), H', ⟨by have := HJ2.out; have := HK2.out; omega⟩, ⟨by repeat (first | (with_reducible first | exact HB.out | apply below_alloc | apply pw_below_drewN | apply below_drew1) | exact HB.out)⟩⟩
              · rw [if_neg c11] at H
                exact absurd H (by simp)
            · rw [if_neg c10] at H
              have c10b0 : decide (0 < x5_2) = false := decide_eq_false c10
              clear c10
              by_cases c15 : x4_2.toList = ([] : List UInt8)
              · rw [if_pos c15] at H
                have c15b0 : (x4_2.toList == ([] : List UInt8)) = true := beq_iff_eq.mpr c15
                have c15b1 : (x4_2.toList != ([] : List UInt8)) = false := bne_eq_false_iff_eq.mpr c15
                clear c15
                obtain ⟨y179, hy179⟩ : ∃ y_ : List Int, y_ = (([(wrap64 (48 + (Int.tmod x5_2 10))) % 256] : List Int)) := ⟨_, rfl⟩
                replace H : (if (strOfNums y179).size + x4_2.size ≤ 9223372036854775807 then (topiarylaw11_CharsNumbers.l0 k2 a0 t174 ((strOfNums y179) ++ x4_2) (wrap64 (Int.tdiv x5_2 10))) else (none)) = some r := by first | (rw [hy179]; with_reducible exact H) | (have H2_ := (Option.bind_some _ _).symm.trans H; rw [hy179]; with_reducible exact H2_) | (have H2_ := (Option.bind_some _ _).symm.trans H; with_reducible exact H2_) | with_reducible exact H | (rw [hy179]; exact H) | exact H
                have Ny179 := Aside0.mk hy179
                clear hy179
                by_cases c16 : (strOfNums y179).size + x4_2.size ≤ 9223372036854775807
                · rw [if_pos c16] at H
                  have c16b0 := eq_true c16
                  have c16b1 : decide ((strOfNums y179).size + x4_2.size ≤ 9223372036854775807) = true := decide_eq_true c16
                  try have c16b2 : (9223372036854775807 < (strOfNums y179).size + x4_2.size) = False := eq_false (Nat.not_lt.2 c16)
                  have H' := Aside0.mk H
                  clear H
                  go_wp2_with (first | ((with_reducible refine gate_dst (N := 45) rfl ?_); (try (refine gate_guard (by rfl) ?_; dsimp only)); refine Kd.R_lit (Kd.int .u8) _ 5 ?hg (N := 45) ?hd (xs := ([(wrap64 (48 + (Int.tmod x5_2 10))) % 256] : List Int)) (inner := [.int .u8 ((wrap64 (48 + (Int.tmod x5_2 10))) % 256)]) (ok := fun _ => True) (okp := fun _ => True) ?hr ?hp (fun _ hk => hk) trivial (Below.refl _ _) (Nat.le_refl _) (by simp) ?_; (case hd => rfl); (case hg => rfl); (case hr => first | (go_simp; done) | (go_simp; rfl)); (case hp => exact (Reps.one (show Kd.M (Kd.int .u8) _ _ _ ((wrap64 (48 + (Int.tmod x5_2 10))) % 256) [.int .u8 ((wrap64 (48 + (Int.tmod x5_2 10))) % 256)] from rfl) (Reps.none _ _))); intro v180 w17 ho18 hb hg_ hnew_; clear hg_ hnew_; (first | rw [← Ny179.out] at ho18 | (simp only [Int.reduceToNat] at ho18; rw [← Ny179.out] at ho18)); have n0_ := Aside0.mk (Kd.R_lower ho18 (below_size (by repeat (first | (with_reducible first | exact HB.out | apply below_alloc | apply pw_below_drewN | apply below_drew1) | exact HB.out)))); have n1_ := Aside0.mk (below_step (by repeat (first | (with_reducible first | exact HB.out | apply below_alloc | apply pw_below_drewN | apply below_drew1) | exact HB.out)) hb); clear HB; have HO181 := n0_; have HB := n1_; clear n0_ n1_; clear hb ho18; have hcv19 := own_string (P := Try.prog) Try.underlying34 Try.underlying5 Try.underlying9 (Kd.own_of_R HO181.out)))
                  go_roundg k2
                  case measure => have := HJ2.out; have := HK2.out; omega
                  case rel => exact ⟨((strOfNums y179) ++ x4_2), (wrap64 (Int.tdiv x5_2 10)), (by first | rfl | (simp; done) | (simp [*]; done)), (by first | rfl | (simp; done) | (simp [*]; done)), H', ⟨by have := HJ2.out; have := HK2.out; omega⟩, ⟨by repeat (first | (with_reducible first | exact HB.out | apply below_alloc | apply pw_below_drewN | apply below_drew1) | exact HB.out)⟩⟩
                · rw [if_neg c16] at H
                  exact absurd H (by simp)
              · rw [if_neg c15] at H
                have c15b0 : (x4_2.toList == ([] : List UInt8)) = false := beq_eq_false_iff_ne.mpr c15
                have c15b1 : (x4_2.toList != ([] : List UInt8)) = true := bne_iff_ne.mpr c15
                have H' := Aside0.mk H
                clear H
                go_wp2
                go_loopg [6, 7] k2 (fun kq v6 v7 w' => ∃ (x6_3 : ByteArray) (x7_3 : Int), v6 = .string x6_3 ∧ v7 = .int .i64 x7_3 ∧ Aside0 (topiarylaw11_CharsNumbers.l1 kq a0 t174 x4_2 x6_3 x7_3 = some r) ∧ Aside0 (kq ≤ k2) ∧ Aside0 (Below w.heap.size w w'))
                case atStart => exact ⟨((⟨#[]⟩ : ByteArray)), (a0), (by first | rfl | (simp; done) | (simp [*]; done)), (by first | rfl | (simp; done) | (simp [*]; done)), H', ⟨Nat.le_refl _⟩, ⟨by repeat (first | (with_reducible first | exact HB.out | apply below_alloc | apply pw_below_drewN | apply below_drew1) | exact HB.out)⟩⟩
                case round =>
                  clear H'
                  try clear c1
                  try clear hcv1
                  try clear p2
                  try clear c5
                  try clear c5b0
                  try clear c6
                  try clear p6
                  try clear c7
                  try clear c9
                  try clear c9b0
                  try clear c10
                  try clear c10b0
                  try clear c11
                  try clear c11b0
                  try clear c11b1
                  try clear c11b2
                  try clear hcv14
                  try clear c15
                  try clear c15b0
                  try clear c15b1
                  try clear c16
                  try clear c16b0
                  try clear c16b1
                  try clear c16b2
                  try clear hcv19
                  try clear p2
                  obtain ⟨x6_3, x7_3, rfl, rfl, HA, HK3, HB⟩ := hrel
                  cases gk with
                  | zero => exact absurd HA.out (by simp [topiarylaw11_CharsNumbers.l1])
                  | succ k3 =>
                    have H := HA.out
                    clear HA
                    simp only [topiarylaw11_CharsNumbers.l1] at H
                    by_cases c20 : x7_3 > 0
                    · rw [if_pos c20] at H
                      have c20b0 : decide (0 < x7_3) = true := decide_eq_true c20
                      clear c20
                      obtain ⟨ji21, hji21⟩ : ∃ j_ : Int, (Int.tmod x7_3 16) = j_ := ⟨_, rfl⟩
                      replace H : (if 0 ≤ (ji21) then (if (ji21) ≤ (wrap64 ((ji21) + 1)) then (if (wrap64 ((ji21) + 1)) ≤ 16 then (if ((⟨#[48, 49, 50, 51, 52, 53, 54, 55, 56, 57, 97, 66, 99, 68, 101, 70]⟩ : ByteArray).extract ((ji21) : Int).toNat ((wrap64 ((ji21) + 1)) : Int).toNat).size + x6_3.size ≤ 9223372036854775807 then (topiarylaw11_CharsNumbers.l1 k3 a0 t174 x4_2 (((⟨#[48, 49, 50, 51, 52, 53, 54, 55, 56, 57, 97, 66, 99, 68, 101, 70]⟩ : ByteArray).extract ((ji21) : Int).toNat ((wrap64 ((ji21) + 1)) : Int).toNat) ++ x6_3) (wrap64 (Int.tdiv x7_3 16))) else (none)) else (none)) else (none)) else (none)) = some r := by first | (rw [hji21] at H; exact H) | (simp only [hji21] at H ⊢; exact H)
                      by_cases c22 : 0 ≤ (ji21)
                      · rw [if_pos c22] at H
                        have c22b0 := eq_true c22
                        have c22b1 : decide (0 ≤ (ji21)) = true := decide_eq_true c22
                        clear c22
                        by_cases c23 : (ji21) ≤ (wrap64 ((ji21) + 1))
                        · rw [if_pos c23] at H
                          have c23b0 := eq_true c23
                          have c23b1 : decide ((ji21) ≤ (wrap64 ((ji21) + 1))) = true := decide_eq_true c23
                          by_cases c24 : (wrap64 ((ji21) + 1)) ≤ 16
                          · rw [if_pos c24] at H
                            have c24b0 := eq_true c24
                            have c24b1 : decide ((wrap64 ((ji21) + 1)) ≤ 16) = true := decide_eq_true c24
                            by_cases c25 : ((⟨#[48, 49, 50, 51, 52, 53, 54, 55, 56, 57, 97, 66, 99, 68, 101, 70]⟩ : ByteArray).extract ((ji21) : Int).toNat ((wrap64 ((ji21) + 1)) : Int).toNat).size + x6_3.size ≤ 9223372036854775807
                            · rw [if_pos c25] at H
                              have c25b0 := eq_true c25
                              have c25b1 : decide (((⟨#[48, 49, 50, 51, 52, 53, 54, 55, 56, 57, 97, 66, 99, 68, 101, 70]⟩ : ByteArray).extract ((ji21) : Int).toNat ((wrap64 ((ji21) + 1)) : Int).toNat).size + x6_3.size ≤ 9223372036854775807) = true := decide_eq_true c25
                              try have c25b2 : (9223372036854775807 < ((⟨#[48, 49, 50, 51, 52, 53, 54, 55, 56, 57, 97, 66, 99, 68, 101, 70]⟩ : ByteArray).extract ((ji21) : Int).toNat ((wrap64 ((ji21) + 1)) : Int).toNat).size + x6_3.size) = False := eq_false (Nat.not_lt.2 c25)
                              have H' := Aside0.mk H
                              clear H
                              go_wp2
                              go_roundg k3
                              case measure => have := HJ2.out; have := HK2.out; have := HK3.out; omega
                              case rel => exact ⟨(((⟨#[48, 49, 50, 51, 52, 53, 54, 55, 56, 57, 97, 66, 99, 68, 101, 70]⟩ : ByteArray).extract ((ji21) : Int).toNat ((wrap64 ((ji21) + 1)) : Int).toNat) ++ x6_3), (wrap64 (Int.tdiv x7_3 16)), (by first | rfl | (simp; done) | (simp only [← hji21] <;> (first | rfl | simp)) | (simp [*]; done)), (by first | rfl | (simp; done) | (simp [*]; done)), H', ⟨by have := HJ2.out; have := HK2.out; have := HK3.out; omega⟩, ⟨by repeat (first | (with_reducible first | exact HB.out | apply below_alloc | apply pw_below_drewN | apply below_drew1) | exact HB.out)⟩⟩
                            · rw [if_neg c25] at H
                              exact absurd H (by simp)
                          · rw [if_neg c24] at H
                            exact absurd H (by simp)
                        · rw [if_neg c23] at H
                          exact absurd H (by simp)
                      · rw [if_neg c22] at H
                        exact absurd H (by simp)
                    · rw [if_neg c20] at H
                      have c20b0 : decide (0 < x7_3) = false := decide_eq_false c20
                      clear c20
                      by_cases c26 : x6_3.toList = ([] : List UInt8)
                      · rw [if_pos c26] at H
                        have c26b0 : (x6_3.toList == ([] : List UInt8)) = true := beq_iff_eq.mpr c26
                        have c26b1 : (x6_3.toList != ([] : List UInt8)) = false := bne_eq_false_iff_eq.mpr c26
                        clear c26
                        obtain ⟨ji27, hji27⟩ : ∃ j_ : Int, (Int.tmod x7_3 16) = j_ := ⟨_, rfl⟩
                        replace H : (if 0 ≤ (ji27) then (if (ji27) ≤ (wrap64 ((ji27) + 1)) then (if (wrap64 ((ji27) + 1)) ≤ 16 then (if ((⟨#[48, 49, 50, 51, 52, 53, 54, 55, 56, 57, 97, 66, 99, 68, 101, 70]⟩ : ByteArray).extract ((ji27) : Int).toNat ((wrap64 ((ji27) + 1)) : Int).toNat).size + x6_3.size ≤ 9223372036854775807 then (topiarylaw11_CharsNumbers.l1 k3 a0 t174 x4_2 (((⟨#[48, 49, 50, 51, 52, 53, 54, 55, 56, 57, 97, 66, 99, 68, 101, 70]⟩ : ByteArray).extract ((ji27) : Int).toNat ((wrap64 ((ji27) + 1)) : Int).toNat) ++ x6_3) (wrap64 (Int.tdiv x7_3 16))) else (none)) else (none)) else (none)) else (none)) = some r := by first | (rw [hji27] at H; exact H) | (simp only [hji27] at H ⊢; exact H)
                        by_cases c28 : 0 ≤ (ji27)
                        · rw [if_pos c28] at H
                          have c28b0 := eq_true c28
                          have c28b1 : decide (0 ≤ (ji27)) = true := decide_eq_true c28
                          clear c28
                          by_cases c29 : (ji27) ≤ (wrap64 ((ji27) + 1))
                          · rw [if_pos c29] at H
                            have c29b0 := eq_true c29
                            have c29b1 : decide ((ji27) ≤ (wrap64 ((ji27) + 1))) = true := decide_eq_true c29
                            by_cases c30 : (wrap64 ((ji27) + 1)) ≤ 16
                            · rw [if_pos c30] at H
                              have c30b0 := eq_true c30
                              have c30b1 : decide ((wrap64 ((ji27) + 1)) ≤ 16) = true := decide_eq_true c30
                              by_cases c31 : ((⟨#[48, 49, 50, 51, 52, 53, 54, 55, 56, 57, 97, 66, 99, 68, 101, 70]⟩ : ByteArray).extract ((ji27) : Int).toNat ((wrap64 ((ji27) + 1)) : Int).toNat).size + x6_3.size ≤ 9223372036854775807
                              · rw [if_pos c31] at H
                                have c31b0 := eq_true c31
                                have c31b1 : decide (((⟨#[48, 49, 50, 51, 52, 53, 54, 55, 56, 57, 97, 66, 99, 68, 101, 70]⟩ : ByteArray).extract ((ji27) : Int).toNat ((wrap64 ((ji27) + 1)) : Int).toNat).size + x6_3.size ≤ 9223372036854775807) = true := decide_eq_true c31
                                try have c31b2 : (9223372036854775807 < ((⟨#[48, 49, 50, 51, 52, 53, 54, 55, 56, 57, 97, 66, 99, 68, 101, 70]⟩ : ByteArray).extract ((ji27) : Int).toNat ((wrap64 ((ji27) + 1)) : Int).toNat).size + x6_3.size) = False := eq_false (Nat.not_lt.2 c31)
                                have H' := Aside0.mk H
                                clear H
                                go_wp2
                                go_roundg k3
                                case measure => have := HJ2.out; have := HK2.out; have := HK3.out; omega
                                case rel => exact ⟨(((⟨#[48, 49, 50, 51, 52, 53, 54, 55, 56, 57, 97, 66, 99, 68, 101, 70]⟩ : ByteArray).extract ((ji27) : Int).toNat ((wrap64 ((ji27) + 1)) : Int).toNat) ++ x6_3), (wrap64 (Int.tdiv x7_3 16)), (by first | rfl | (simp; done) | (simp only [← hji27] <;> (first | rfl | simp)) | (simp [*]; done)), (by first | rfl | (simp; done) | (simp [*]; done)), H', ⟨by have := HJ2.out; have := HK2.out; have := HK3.out; omega⟩, ⟨by repeat (first | (with_reducible first | exact HB.out | apply below_alloc | apply pw_below_drewN | apply below_drew1) | exact HB.out)⟩⟩
                              · rw [if_neg c31] at H
                                exact absurd H (by simp)
                            · rw [if_neg c30] at H
                              exact absurd H (by simp)
                          · rw [if_neg c29] at H
                            exact absurd H (by simp)
                        · rw [if_neg c28] at H
                          exact absurd H (by simp)
                      · rw [if_neg c26] at H
                        have c26b0 : (x6_3.toList == ([] : List UInt8)) = false := beq_eq_false_iff_ne.mpr c26
                        have c26b1 : (x6_3.toList != ([] : List UInt8)) = true := bne_iff_ne.mpr c26
                        by_cases c32 : 2 + x4_2.size ≤ 9223372036854775807
                        · rw [if_pos c32] at H
                          have c32b0 := eq_true c32
                          have c32b1 : decide (2 + x4_2.size ≤ 9223372036854775807) = true := decide_eq_true c32
                          try have c32b2 : (9223372036854775807 < 2 + x4_2.size) = False := eq_false (Nat.not_lt.2 c32)
                          by_cases c33 : ((⟨#[38, 35]⟩ : ByteArray) ++ x4_2).size + 1 ≤ 9223372036854775807
                          · rw [if_pos c33] at H
                            have c33b0 := eq_true c33
                            have c33b1 : decide (((⟨#[38, 35]⟩ : ByteArray) ++ x4_2).size + 1 ≤ 9223372036854775807) = true := decide_eq_true c33
                            try have c33b2 : (9223372036854775807 < ((⟨#[38, 35]⟩ : ByteArray) ++ x4_2).size + 1) = False := eq_false (Nat.not_lt.2 c33)
                            have c33z : 2 + x4_2.size + 1 ≤ 9223372036854775807 := by have z_ := c33; rw [ByteArray.size_append] at z_; exact z_
                            have c33zb0 := eq_true c33z
                            have c33zb1 : decide (2 + x4_2.size + 1 ≤ 9223372036854775807) = true := decide_eq_true c33z
                            have c33zb2 : (9223372036854775807 < 2 + x4_2.size + 1) = False := eq_false (Nat.not_lt.2 c33z)
                            have c33zw3 : wrap64 ((x4_2.size : Int) + 3) = (x4_2.size : Int) + 3 := by unfold wrap64; omega
                            replace H := Option.bind_eq_some_iff.mp H
                            obtain ⟨⟨t182, t183⟩, A340, H⟩ := H
                            replace H : (if 4 + x6_3.size ≤ 9223372036854775807 then (if ((⟨#[120, 38, 35, 120]⟩ : ByteArray) ++ x6_3).size + 1 ≤ 9223372036854775807 then ((chars_Entity.f k3 (((⟨#[120, 38, 35, 120]⟩ : ByteArray) ++ x6_3) ++ (⟨#[59]⟩ : ByteArray)) 1).bind fun bt184 => ((chars_Allowed.f k3 a0).bind fun t186 => (if t186 = true then (if t174 = true then ((chars_Encode.f k3 a0).bind fun t187 => (if t182.toList = t187.toList then (if bt184.1.toList = t182.toList then (if t183 = (wrap64 ((x4_2.size : Int) + 3)) then (some (bt184.2 == (wrap64 ((x6_3.size : Int) + 4)))) else (some false)) else (some false)) else (some false))) else (some false)) else (if t174 = true then (if t182.toList = ([] : List UInt8) then (if bt184.1.toList = ([] : List UInt8) then (some ((wrap64 (t183 + bt184.2)) == 0)) else (some false)) else (some false)) else (some false))))) else (none)) else (none)) = some r := H
                            have A34 := Aside0.mk A340
                            clear A340
                            by_cases c35 : 4 + x6_3.size ≤ 9223372036854775807
                            · rw [if_pos c35] at H
                              have c35b0 := eq_true c35
                              have c35b1 : decide (4 + x6_3.size ≤ 9223372036854775807) = true := decide_eq_true c35
                              try have c35b2 : (9223372036854775807 < 4 + x6_3.size) = False := eq_false (Nat.not_lt.2 c35)
                              by_cases c36 : ((⟨#[120, 38, 35, 120]⟩ : ByteArray) ++ x6_3).size + 1 ≤ 9223372036854775807
                              · rw [if_pos c36] at H
                                have c36b0 := eq_true c36
                                have c36b1 : decide (((⟨#[120, 38, 35, 120]⟩ : ByteArray) ++ x6_3).size + 1 ≤ 9223372036854775807) = true := decide_eq_true c36
                                try have c36b2 : (9223372036854775807 < ((⟨#[120, 38, 35, 120]⟩ : ByteArray) ++ x6_3).size + 1) = False := eq_false (Nat.not_lt.2 c36)
                                have c36z : 4 + x6_3.size + 1 ≤ 9223372036854775807 := by have z_ := c36; rw [ByteArray.size_append] at z_; exact z_
                                have c36zb0 := eq_true c36z
                                have c36zb1 : decide (4 + x6_3.size + 1 ≤ 9223372036854775807) = true := decide_eq_true c36z
                                have c36zb2 : (9223372036854775807 < 4 + x6_3.size + 1) = False := eq_false (Nat.not_lt.2 c36z)
                                have c36zw4 : wrap64 ((x6_3.size : Int) + 4) = (x6_3.size : Int) + 4 := by unfold wrap64; omega
                                replace H := Option.bind_eq_some_iff.mp H
                                obtain ⟨⟨t184, t185⟩, A370, H⟩ := H
                                replace H : ((chars_Allowed.f k3 a0).bind fun t186 => (if t186 = true then (if t174 = true then ((chars_Encode.f k3 a0).bind fun t187 => (if t182.toList = t187.toList then (if t184.toList = t182.toList then (if t183 = (wrap64 ((x4_2.size : Int) + 3)) then (some (t185 == (wrap64 ((x6_3.size : Int) + 4)))) else (some false)) else (some false)) else (some false))) else (some false)) else (if t174 = true then (if t182.toList = ([] : List UInt8) then (if t184.toList = ([] : List UInt8) then (some ((wrap64 (t183 + t185)) == 0)) else (some false)) else (some false)) else (some false)))) = some r := H
                                have A37 := Aside0.mk A370
                                clear A370
                                replace H := Option.bind_eq_some_iff.mp H
                                obtain ⟨t186, A380, H⟩ := H
                                replace H : (if t186 = true then (if t174 = true then ((chars_Encode.f k3 a0).bind fun t187 => (if t182.toList = t187.toList then (if t184.toList = t182.toList then (if t183 = (wrap64 ((x4_2.size : Int) + 3)) then (some (t185 == (wrap64 ((x6_3.size : Int) + 4)))) else (some false)) else (some false)) else (some false))) else (some false)) else (if t174 = true then (if t182.toList = ([] : List UInt8) then (if t184.toList = ([] : List UInt8) then (some ((wrap64 (t183 + t185)) == 0)) else (some false)) else (some false)) else (some false))) = some r := H
                                have A38 := Aside0.mk A380
                                clear A380
                                by_cases c39 : t186 = true
                                · subst c39
                                  have H1 : (if t174 = true then ((chars_Encode.f k3 a0).bind fun t187 => (if t182.toList = t187.toList then (if t184.toList = t182.toList then (if t183 = (wrap64 ((x4_2.size : Int) + 3)) then (some (t185 == (wrap64 ((x6_3.size : Int) + 4)))) else (some false)) else (some false)) else (some false))) else (some false)) = some r := by rw [if_pos rfl] at H; exact H
                                  clear H
                                  have H := H1
                                  clear H1
                                  by_cases c40 : t174 = true
                                  · subst c40
                                    have H1 : ((chars_Encode.f k3 a0).bind fun t187 => (if t182.toList = t187.toList then (if t184.toList = t182.toList then (if t183 = (wrap64 ((x4_2.size : Int) + 3)) then (some (t185 == (wrap64 ((x6_3.size : Int) + 4)))) else (some false)) else (some false)) else (some false))) = some r := by rw [if_pos rfl] at H; exact H
                                    clear H
                                    have H := H1
                                    clear H1
                                    replace H := Option.bind_eq_some_iff.mp H
                                    obtain ⟨t187, A410, H⟩ := H
                                    replace H : (if t182.toList = t187.toList then (if t184.toList = t182.toList then (if t183 = (wrap64 ((x4_2.size : Int) + 3)) then (some (t185 == (wrap64 ((x6_3.size : Int) + 4)))) else (some false)) else (some false)) else (some false)) = some r := H
                                    have A41 := Aside0.mk A410
                                    clear A410
                                    by_cases c42 : t182.toList = t187.toList
                                    · rw [if_pos c42] at H
                                      have c42b0 : (t182.toList == t187.toList) = true := beq_iff_eq.mpr c42
                                      have c42b1 : (t182.toList != t187.toList) = false := bne_eq_false_iff_eq.mpr c42
                                      clear c42
                                      by_cases c43 : t184.toList = t182.toList
                                      · rw [if_pos c43] at H
                                        have c43b0 : (t184.toList == t182.toList) = true := beq_iff_eq.mpr c43
                                        have c43b1 : (t184.toList != t182.toList) = false := bne_eq_false_iff_eq.mpr c43
                                        clear c43
                                        by_cases c44 : t183 = (wrap64 ((x4_2.size : Int) + 3))
                                        · rw [if_pos c44] at H
                                          have c44b0 : (t183 == (wrap64 ((x4_2.size : Int) + 3))) = true := beq_iff_eq.mpr c44
                                          have c44z : t183 = (x4_2.size : Int) + 3 := by rw [← c33zw3]; exact beq_iff_eq.mp c44b0
                                          have c44z1 := eq_true c44z
                                          have c44z0 : (t183 == ((x4_2.size : Int) + 3)) = true := beq_iff_eq.mpr c44z
                                          have c44b1 : (t183 != (wrap64 ((x4_2.size : Int) + 3))) = false := bne_eq_false_iff_eq.mpr c44
                                          clear c44
                                          obtain rfl := Option.some.inj H
                                          go_wp2_with (first | ((with_reducible refine gate_callee (f := 18) rfl ?_); refine goesL_ (some 70) rfl rfl Try.func18 (by kernel_rfl) rfl #[.string (((⟨#[38, 35]⟩ : ByteArray) ++ x4_2) ++ (⟨#[59]⟩ : ByteArray)), .int .i64 0] rfl (by (try simp only [List.map_toArray, List.map_cons, List.map_nil]); first | done | rfl | (simp only [List.length_drop, List.length_take]; rfl)) ?_; (with_reducible refine (chars_Entity.calls k3 (((⟨#[38, 35]⟩ : ByteArray) ++ x4_2) ++ (⟨#[59]⟩ : ByteArray)) 0 t182 t183 _ A34.out).mono ?_); rintro e w45 ⟨rfl, hb⟩; refine ⟨_, rfl, ?_⟩; have n0_ := Aside0.mk (below_step (by repeat (first | (with_reducible first | exact HB.out | apply below_alloc | apply pw_below_drewN | apply below_drew1) | exact HB.out)) hb); clear HB; have HB := n0_; clear n0_; (try clear hb); (try clear hb2); (try clear hk); (try clear hi)) | ((with_reducible refine gate_callee (f := 18) rfl ?_); refine goesL_ (some 77) rfl rfl Try.func18 (by kernel_rfl) rfl #[.string (((⟨#[120, 38, 35, 120]⟩ : ByteArray) ++ x6_3) ++ (⟨#[59]⟩ : ByteArray)), .int .i64 1] rfl (by (try simp only [List.map_toArray, List.map_cons, List.map_nil]); first | done | rfl | (simp only [List.length_drop, List.length_take]; rfl)) ?_; (with_reducible refine (chars_Entity.calls k3 (((⟨#[120, 38, 35, 120]⟩ : ByteArray) ++ x6_3) ++ (⟨#[59]⟩ : ByteArray)) 1 t184 t185 _ A37.out).mono ?_); rintro e w46 ⟨rfl, hb⟩; refine ⟨_, rfl, ?_⟩; have n0_ := Aside0.mk (below_step (by repeat (first | (with_reducible first | exact HB.out | apply below_alloc | apply pw_below_drewN | apply below_drew1) | exact HB.out)) hb); clear HB; have HB := n0_; clear n0_; (try clear hb); (try clear hb2); (try clear hk); (try clear hi)) | ((with_reducible refine gate_callee (f := 24) rfl ?_); refine goesL_ (some 81) rfl rfl Try.func24 (by kernel_rfl) rfl #[.int .i64 a0] rfl (by (try simp only [List.map_toArray, List.map_cons, List.map_nil]); first | done | rfl | (simp only [List.length_drop, List.length_take]; rfl)) ?_; (with_reducible refine (chars_Allowed.calls k3 a0 true _ A38.out).mono ?_); rintro e w' ⟨rfl, ⟨nd, rfl⟩⟩; refine ⟨_, rfl, ?_⟩) | (go_at_call 22; (with_reducible refine (chars_Encode.calls k3 a0 t187 _ A41.out).mono ?_); rintro e w47 ⟨rfl, hb⟩; have n0_ := Aside0.mk (below_step (by repeat (first | (with_reducible first | exact HB.out | apply below_alloc | apply pw_below_drewN | apply below_drew1) | exact HB.out)) hb); clear HB; have HB := n0_; clear n0_; (try clear hb); (try clear hb2); (try clear hk); (try clear hi)))
                                          go_ret
                                          exact ⟨by first | rfl | (simp [errW_none, errW_some] <;> rfl) | (simp [*, errW_none, errW_some] <;> rfl), by repeat (first | (with_reducible first | exact HB.out | apply below_alloc | apply pw_below_drewN | apply below_drew1) | exact HB.out)⟩
                                        · rw [if_neg c44] at H
                                          have c44b0 : (t183 == (wrap64 ((x4_2.size : Int) + 3))) = false := beq_eq_false_iff_ne.mpr c44
                                          have c44z : ¬ t183 = (x4_2.size : Int) + 3 := by rw [← c33zw3]; exact beq_eq_false_iff_ne.mp c44b0
                                          have c44z1 := eq_false c44z
                                          have c44z0 : (t183 == ((x4_2.size : Int) + 3)) = false := beq_eq_false_iff_ne.mpr c44z
                                          have c44b1 : (t183 != (wrap64 ((x4_2.size : Int) + 3))) = true := bne_iff_ne.mpr c44
                                          obtain rfl := Option.some.inj H
                                          go_wp2_with (first | ((with_reducible refine gate_callee (f := 18) rfl ?_); refine goesL_ (some 70) rfl rfl Try.func18 (by kernel_rfl) rfl #[.string (((⟨#[38, 35]⟩ : ByteArray) ++ x4_2) ++ (⟨#[59]⟩ : ByteArray)), .int .i64 0] rfl (by (try simp only [List.map_toArray, List.map_cons, List.map_nil]); first | done | rfl | (simp only [List.length_drop, List.length_take]; rfl)) ?_; (with_reducible refine (chars_Entity.calls k3 (((⟨#[38, 35]⟩ : ByteArray) ++ x4_2) ++ (⟨#[59]⟩ : ByteArray)) 0 t182 t183 _ A34.out).mono ?_); rintro e w48 ⟨rfl, hb⟩; refine ⟨_, rfl, ?_⟩; have n0_ := Aside0.mk (below_step (by repeat (first | (with_reducible first | exact HB.out | apply below_alloc | apply pw_below_drewN | apply below_drew1) | exact HB.out)) hb); clear HB; have HB := n0_; clear n0_; (try clear hb); (try clear hb2); (try clear hk); (try clear hi)) | ((with_reducible refine gate_callee (f := 18) rfl ?_); refine goesL_ (some 77) rfl rfl Try.func18 (by kernel_rfl) rfl #[.string (((⟨#[120, 38, 35, 120]⟩ : ByteArray) ++ x6_3) ++ (⟨#[59]⟩ : ByteArray)), .int .i64 1] rfl (by (try simp only [List.map_toArray, List.map_cons, List.map_nil]); first | done | rfl | (simp only [List.length_drop, List.length_take]; rfl)) ?_; (with_reducible refine (chars_Entity.calls k3 (((⟨#[120, 38, 35, 120]⟩ : ByteArray) ++ x6_3) ++ (⟨#[59]⟩ : ByteArray)) 1 t184 t185 _ A37.out).mono ?_); rintro e w49 ⟨rfl, hb⟩; refine ⟨_, rfl, ?_⟩; have n0_ := Aside0.mk (below_step (by repeat (first | (with_reducible first | exact HB.out | apply below_alloc | apply pw_below_drewN | apply below_drew1) | exact HB.out)) hb); clear HB; have HB := n0_; clear n0_; (try clear hb); (try clear hb2); (try clear hk); (try clear hi)) | ((with_reducible refine gate_callee (f := 24) rfl ?_); refine goesL_ (some 81) rfl rfl Try.func24 (by kernel_rfl) rfl #[.int .i64 a0] rfl (by (try simp only [List.map_toArray, List.map_cons, List.map_nil]); first | done | rfl | (simp only [List.length_drop, List.length_take]; rfl)) ?_; (with_reducible refine (chars_Allowed.calls k3 a0 true _ A38.out).mono ?_); rintro e w' ⟨rfl, ⟨nd, rfl⟩⟩; refine ⟨_, rfl, ?_⟩) | (go_at_call 22; (with_reducible refine (chars_Encode.calls k3 a0 t187 _ A41.out).mono ?_); rintro e w50 ⟨rfl, hb⟩; have n0_ := Aside0.mk (below_step (by repeat (first | (with_reducible first | exact HB.out | apply below_alloc | apply pw_below_drewN | apply below_drew1) | exact HB.out)) hb); clear HB; have HB := n0_; clear n0_; (try clear hb); (try clear hb2); (try clear hk); (try clear hi)))
                                          go_ret
                                          exact ⟨by first | rfl | (simp [errW_none, errW_some] <;> rfl) | (simp [*, errW_none, errW_some] <;> rfl), by repeat (first | (with_reducible first | exact HB.out | apply below_alloc | apply pw_below_drewN | apply below_drew1) | exact HB.out)⟩
                                      · rw [if_neg c43] at H
                                        have c43b0 : (t184.toList == t182.toList) = false := beq_eq_false_iff_ne.mpr c43
                                        have c43b1 : (t184.toList != t182.toList) = true := bne_iff_ne.mpr c43
                                        obtain rfl := Option.some.inj H
                                        go_wp2_with (first | ((with_reducible refine gate_callee (f := 18) rfl ?_); refine goesL_ (some 70) rfl rfl Try.func18 (by kernel_rfl) rfl #[.string (((⟨#[38, 35]⟩ : ByteArray) ++ x4_2) ++ (⟨#[59]⟩ : ByteArray)), .int .i64 0] rfl (by (try simp only [List.map_toArray, List.map_cons, List.map_nil]); first | done | rfl | (simp only [List.length_drop, List.length_take]; rfl)) ?_; (with_reducible refine (chars_Entity.calls k3 (((⟨#[38, 35]⟩ : ByteArray) ++ x4_2) ++ (⟨#[59]⟩ : ByteArray)) 0 t182 t183 _ A34.out).mono ?_); rintro e w51 ⟨rfl, hb⟩; refine ⟨_, rfl, ?_⟩; have n0_ := Aside0.mk (below_step (by repeat (first | (with_reducible first | exact HB.out | apply below_alloc | apply pw_below_drewN | apply below_drew1) | exact HB.out)) hb); clear HB; have HB := n0_; clear n0_; (try clear hb); (try clear hb2); (try clear hk); (try clear hi)) | ((with_reducible refine gate_callee (f := 18) rfl ?_); refine goesL_ (some 77) rfl rfl Try.func18 (by kernel_rfl) rfl #[.string (((⟨#[120, 38, 35, 120]⟩ : ByteArray) ++ x6_3) ++ (⟨#[59]⟩ : ByteArray)), .int .i64 1] rfl (by (try simp only [List.map_toArray, List.map_cons, List.map_nil]); first | done | rfl | (simp only [List.length_drop, List.length_take]; rfl)) ?_; (with_reducible refine (chars_Entity.calls k3 (((⟨#[120, 38, 35, 120]⟩ : ByteArray) ++ x6_3) ++ (⟨#[59]⟩ : ByteArray)) 1 t184 t185 _ A37.out).mono ?_); rintro e w52 ⟨rfl, hb⟩; refine ⟨_, rfl, ?_⟩; have n0_ := Aside0.mk (below_step (by repeat (first | (with_reducible first | exact HB.out | apply below_alloc | apply pw_below_drewN | apply below_drew1) | exact HB.out)) hb); clear HB; have HB := n0_; clear n0_; (try clear hb); (try clear hb2); (try clear hk); (try clear hi)) | ((with_reducible refine gate_callee (f := 24) rfl ?_); refine goesL_ (some 81) rfl rfl Try.func24 (by kernel_rfl) rfl #[.int .i64 a0] rfl (by (try simp only [List.map_toArray, List.map_cons, List.map_nil]); first | done | rfl | (simp only [List.length_drop, List.length_take]; rfl)) ?_; (with_reducible refine (chars_Allowed.calls k3 a0 true _ A38.out).mono ?_); rintro e w' ⟨rfl, ⟨nd, rfl⟩⟩; refine ⟨_, rfl, ?_⟩) | (go_at_call 22; (with_reducible refine (chars_Encode.calls k3 a0 t187 _ A41.out).mono ?_); rintro e w53 ⟨rfl, hb⟩; have n0_ := Aside0.mk (below_step (by repeat (first | (with_reducible first | exact HB.out | apply below_alloc | apply pw_below_drewN | apply below_drew1) | exact HB.out)) hb); clear HB; have HB := n0_; clear n0_; (try clear hb); (try clear hb2); (try clear hk); (try clear hi)))
                                        go_ret
                                        exact ⟨by first | rfl | (simp [errW_none, errW_some] <;> rfl) | (simp [*, errW_none, errW_some] <;> rfl), by repeat (first | (with_reducible first | exact HB.out | apply below_alloc | apply pw_below_drewN | apply below_drew1) | exact HB.out)⟩
                                    · rw [if_neg c42] at H
                                      have c42b0 : (t182.toList == t187.toList) = false := beq_eq_false_iff_ne.mpr c42
                                      have c42b1 : (t182.toList != t187.toList) = true := bne_iff_ne.mpr c42
                                      obtain rfl := Option.some.inj H
                                      go_wp2_with (first | ((with_reducible refine gate_callee (f := 18) rfl ?_); refine goesL_ (some 70) rfl rfl Try.func18 (by kernel_rfl) rfl #[.string (((⟨#[38, 35]⟩ : ByteArray) ++ x4_2) ++ (⟨#[59]⟩ : ByteArray)), .int .i64 0] rfl (by (try simp only [List.map_toArray, List.map_cons, List.map_nil]); first | done | rfl | (simp only [List.length_drop, List.length_take]; rfl)) ?_; (with_reducible refine (chars_Entity.calls k3 (((⟨#[38, 35]⟩ : ByteArray) ++ x4_2) ++ (⟨#[59]⟩ : ByteArray)) 0 t182 t183 _ A34.out).mono ?_); rintro e w54 ⟨rfl, hb⟩; refine ⟨_, rfl, ?_⟩; have n0_ := Aside0.mk (below_step (by repeat (first | (with_reducible first | exact HB.out | apply below_alloc | apply pw_below_drewN | apply below_drew1) | exact HB.out)) hb); clear HB; have HB := n0_; clear n0_; (try clear hb); (try clear hb2); (try clear hk); (try clear hi)) | ((with_reducible refine gate_callee (f := 18) rfl ?_); refine goesL_ (some 77) rfl rfl Try.func18 (by kernel_rfl) rfl #[.string (((⟨#[120, 38, 35, 120]⟩ : ByteArray) ++ x6_3) ++ (⟨#[59]⟩ : ByteArray)), .int .i64 1] rfl (by (try simp only [List.map_toArray, List.map_cons, List.map_nil]); first | done | rfl | (simp only [List.length_drop, List.length_take]; rfl)) ?_; (with_reducible refine (chars_Entity.calls k3 (((⟨#[120, 38, 35, 120]⟩ : ByteArray) ++ x6_3) ++ (⟨#[59]⟩ : ByteArray)) 1 t184 t185 _ A37.out).mono ?_); rintro e w55 ⟨rfl, hb⟩; refine ⟨_, rfl, ?_⟩; have n0_ := Aside0.mk (below_step (by repeat (first | (with_reducible first | exact HB.out | apply below_alloc | apply pw_below_drewN | apply below_drew1) | exact HB.out)) hb); clear HB; have HB := n0_; clear n0_; (try clear hb); (try clear hb2); (try clear hk); (try clear hi)) | ((with_reducible refine gate_callee (f := 24) rfl ?_); refine goesL_ (some 81) rfl rfl Try.func24 (by kernel_rfl) rfl #[.int .i64 a0] rfl (by (try simp only [List.map_toArray, List.map_cons, List.map_nil]); first | done | rfl | (simp only [List.length_drop, List.length_take]; rfl)) ?_; (with_reducible refine (chars_Allowed.calls k3 a0 true _ A38.out).mono ?_); rintro e w' ⟨rfl, ⟨nd, rfl⟩⟩; refine ⟨_, rfl, ?_⟩) | (go_at_call 22; (with_reducible refine (chars_Encode.calls k3 a0 t187 _ A41.out).mono ?_); rintro e w56 ⟨rfl, hb⟩; have n0_ := Aside0.mk (below_step (by repeat (first | (with_reducible first | exact HB.out | apply below_alloc | apply pw_below_drewN | apply below_drew1) | exact HB.out)) hb); clear HB; have HB := n0_; clear n0_; (try clear hb); (try clear hb2); (try clear hk); (try clear hi)))
                                      go_ret
                                      exact ⟨by first | rfl | (simp [errW_none, errW_some] <;> rfl) | (simp [*, errW_none, errW_some] <;> rfl), by repeat (first | (with_reducible first | exact HB.out | apply below_alloc | apply pw_below_drewN | apply below_drew1) | exact HB.out)⟩
                                  · replace c40 := Bool.eq_false_iff.mpr c40
                                    subst c40
                                    have H1 : (some false) = some r := by rw [if_neg (show ¬ (false = true) by decide)] at H; exact H
                                    clear H
                                    have H := H1
                                    clear H1
                                    obtain rfl := Option.some.inj H
                                    go_wp2_with (first | ((with_reducible refine gate_callee (f := 18) rfl ?_); refine goesL_ (some 70) rfl rfl Try.func18 (by kernel_rfl) rfl #[.string (((⟨#[38, 35]⟩ : ByteArray) ++ x4_2) ++ (⟨#[59]⟩ : ByteArray)), .int .i64 0] rfl (by (try simp only [List.map_toArray, List.map_cons, List.map_nil]); first | done | rfl | (simp only [List.length_drop, List.length_take]; rfl)) ?_; (with_reducible refine (chars_Entity.calls k3 (((⟨#[38, 35]⟩ : ByteArray) ++ x4_2) ++ (⟨#[59]⟩ : ByteArray)) 0 t182 t183 _ A34.out).mono ?_); rintro e w57 ⟨rfl, hb⟩; refine ⟨_, rfl, ?_⟩; have n0_ := Aside0.mk (below_step (by repeat (first | (with_reducible first | exact HB.out | apply below_alloc | apply pw_below_drewN | apply below_drew1) | exact HB.out)) hb); clear HB; have HB := n0_; clear n0_; (try clear hb); (try clear hb2); (try clear hk); (try clear hi)) | ((with_reducible refine gate_callee (f := 18) rfl ?_); refine goesL_ (some 77) rfl rfl Try.func18 (by kernel_rfl) rfl #[.string (((⟨#[120, 38, 35, 120]⟩ : ByteArray) ++ x6_3) ++ (⟨#[59]⟩ : ByteArray)), .int .i64 1] rfl (by (try simp only [List.map_toArray, List.map_cons, List.map_nil]); first | done | rfl | (simp only [List.length_drop, List.length_take]; rfl)) ?_; (with_reducible refine (chars_Entity.calls k3 (((⟨#[120, 38, 35, 120]⟩ : ByteArray) ++ x6_3) ++ (⟨#[59]⟩ : ByteArray)) 1 t184 t185 _ A37.out).mono ?_); rintro e w58 ⟨rfl, hb⟩; refine ⟨_, rfl, ?_⟩; have n0_ := Aside0.mk (below_step (by repeat (first | (with_reducible first | exact HB.out | apply below_alloc | apply pw_below_drewN | apply below_drew1) | exact HB.out)) hb); clear HB; have HB := n0_; clear n0_; (try clear hb); (try clear hb2); (try clear hk); (try clear hi)) | ((with_reducible refine gate_callee (f := 24) rfl ?_); refine goesL_ (some 81) rfl rfl Try.func24 (by kernel_rfl) rfl #[.int .i64 a0] rfl (by (try simp only [List.map_toArray, List.map_cons, List.map_nil]); first | done | rfl | (simp only [List.length_drop, List.length_take]; rfl)) ?_; (with_reducible refine (chars_Allowed.calls k3 a0 true _ A38.out).mono ?_); rintro e w' ⟨rfl, ⟨nd, rfl⟩⟩; refine ⟨_, rfl, ?_⟩))
                                    go_ret
                                    exact ⟨by first | rfl | (simp [errW_none, errW_some] <;> rfl) | (simp [*, errW_none, errW_some] <;> rfl), by repeat (first | (with_reducible first | exact HB.out | apply below_alloc | apply pw_below_drewN | apply below_drew1) | exact HB.out)⟩
                                · replace c39 := Bool.eq_false_iff.mpr c39
                                  subst c39
                                  have H1 : (if t174 = true then (if t182.toList = ([] : List UInt8) then (if t184.toList = ([] : List UInt8) then (some ((wrap64 (t183 + t185)) == 0)) else (some false)) else (some false)) else (some false)) = some r := by rw [if_neg (show ¬ (false = true) by decide)] at H; exact H
                                  clear H
                                  have H := H1
                                  clear H1
                                  by_cases c59 : t174 = true
                                  · subst c59
                                    have H1 : (if t182.toList = ([] : List UInt8) then (if t184.toList = ([] : List UInt8) then (some ((wrap64 (t183 + t185)) == 0)) else (some false)) else (some false)) = some r := by rw [if_pos rfl] at H; exact H
                                    clear H
                                    have H := H1
                                    clear H1
                                    by_cases c60 : t182.toList = ([] : List UInt8)
                                    · rw [if_pos c60] at H
                                      have c60b0 : (t182.toList == ([] : List UInt8)) = true := beq_iff_eq.mpr c60
                                      have c60b1 : (t182.toList != ([] : List UInt8)) = false := bne_eq_false_iff_eq.mpr c60
                                      clear c60
                                      by_cases c61 : t184.toList = ([] : List UInt8)
                                      · rw [if_pos c61] at H
                                        have c61b0 : (t184.toList == ([] : List UInt8)) = true := beq_iff_eq.mpr c61
                                        have c61b1 : (t184.toList != ([] : List UInt8)) = false := bne_eq_false_iff_eq.mpr c61
                                        clear c61
                                        obtain rfl := Option.some.inj H
                                        go_wp2_with (first | ((with_reducible refine gate_callee (f := 18) rfl ?_); refine goesL_ (some 70) rfl rfl Try.func18 (by kernel_rfl) rfl #[.string (((⟨#[38, 35]⟩ : ByteArray) ++ x4_2) ++ (⟨#[59]⟩ : ByteArray)), .int .i64 0] rfl (by (try simp only [List.map_toArray, List.map_cons, List.map_nil]); first | done | rfl | (simp only [List.length_drop, List.length_take]; rfl)) ?_; (with_reducible refine (chars_Entity.calls k3 (((⟨#[38, 35]⟩ : ByteArray) ++ x4_2) ++ (⟨#[59]⟩ : ByteArray)) 0 t182 t183 _ A34.out).mono ?_); rintro e w62 ⟨rfl, hb⟩; refine ⟨_, rfl, ?_⟩; have n0_ := Aside0.mk (below_step (by repeat (first | (with_reducible first | exact HB.out | apply below_alloc | apply pw_below_drewN | apply below_drew1) | exact HB.out)) hb); clear HB; have HB := n0_; clear n0_; (try clear hb); (try clear hb2); (try clear hk); (try clear hi)) | ((with_reducible refine gate_callee (f := 18) rfl ?_); refine goesL_ (some 77) rfl rfl Try.func18 (by kernel_rfl) rfl #[.string (((⟨#[120, 38, 35, 120]⟩ : ByteArray) ++ x6_3) ++ (⟨#[59]⟩ : ByteArray)), .int .i64 1] rfl (by (try simp only [List.map_toArray, List.map_cons, List.map_nil]); first | done | rfl | (simp only [List.length_drop, List.length_take]; rfl)) ?_; (with_reducible refine (chars_Entity.calls k3 (((⟨#[120, 38, 35, 120]⟩ : ByteArray) ++ x6_3) ++ (⟨#[59]⟩ : ByteArray)) 1 t184 t185 _ A37.out).mono ?_); rintro e w63 ⟨rfl, hb⟩; refine ⟨_, rfl, ?_⟩; have n0_ := Aside0.mk (below_step (by repeat (first | (with_reducible first | exact HB.out | apply below_alloc | apply pw_below_drewN | apply below_drew1) | exact HB.out)) hb); clear HB; have HB := n0_; clear n0_; (try clear hb); (try clear hb2); (try clear hk); (try clear hi)) | ((with_reducible refine gate_callee (f := 24) rfl ?_); refine goesL_ (some 81) rfl rfl Try.func24 (by kernel_rfl) rfl #[.int .i64 a0] rfl (by (try simp only [List.map_toArray, List.map_cons, List.map_nil]); first | done | rfl | (simp only [List.length_drop, List.length_take]; rfl)) ?_; (with_reducible refine (chars_Allowed.calls k3 a0 false _ A38.out).mono ?_); rintro e w' ⟨rfl, ⟨nd, rfl⟩⟩; refine ⟨_, rfl, ?_⟩))
                                        go_ret
                                        exact ⟨by first | rfl | (simp [errW_none, errW_some] <;> rfl) | (simp [*, errW_none, errW_some] <;> rfl), by repeat (first | (with_reducible first | exact HB.out | apply below_alloc | apply pw_below_drewN | apply below_drew1) | exact HB.out)⟩
                                      · rw [if_neg c61] at H
                                        have c61b0 : (t184.toList == ([] : List UInt8)) = false := beq_eq_false_iff_ne.mpr c61
                                        have c61b1 : (t184.toList != ([] : List UInt8)) = true := bne_iff_ne.mpr c61
                                        obtain rfl := Option.some.inj H
                                        go_wp2_with (first | ((with_reducible refine gate_callee (f := 18) rfl ?_); refine goesL_ (some 70) rfl rfl Try.func18 (by kernel_rfl) rfl #[.string (((⟨#[38, 35]⟩ : ByteArray) ++ x4_2) ++ (⟨#[59]⟩ : ByteArray)), .int .i64 0] rfl (by (try simp only [List.map_toArray, List.map_cons, List.map_nil]); first | done | rfl | (simp only [List.length_drop, List.length_take]; rfl)) ?_; (with_reducible refine (chars_Entity.calls k3 (((⟨#[38, 35]⟩ : ByteArray) ++ x4_2) ++ (⟨#[59]⟩ : ByteArray)) 0 t182 t183 _ A34.out).mono ?_); rintro e w64 ⟨rfl, hb⟩; refine ⟨_, rfl, ?_⟩; have n0_ := Aside0.mk (below_step (by repeat (first | (with_reducible first | exact HB.out | apply below_alloc | apply pw_below_drewN | apply below_drew1) | exact HB.out)) hb); clear HB; have HB := n0_; clear n0_; (try clear hb); (try clear hb2); (try clear hk); (try clear hi)) | ((with_reducible refine gate_callee (f := 18) rfl ?_); refine goesL_ (some 77) rfl rfl Try.func18 (by kernel_rfl) rfl #[.string (((⟨#[120, 38, 35, 120]⟩ : ByteArray) ++ x6_3) ++ (⟨#[59]⟩ : ByteArray)), .int .i64 1] rfl (by (try simp only [List.map_toArray, List.map_cons, List.map_nil]); first | done | rfl | (simp only [List.length_drop, List.length_take]; rfl)) ?_; (with_reducible refine (chars_Entity.calls k3 (((⟨#[120, 38, 35, 120]⟩ : ByteArray) ++ x6_3) ++ (⟨#[59]⟩ : ByteArray)) 1 t184 t185 _ A37.out).mono ?_); rintro e w65 ⟨rfl, hb⟩; refine ⟨_, rfl, ?_⟩; have n0_ := Aside0.mk (below_step (by repeat (first | (with_reducible first | exact HB.out | apply below_alloc | apply pw_below_drewN | apply below_drew1) | exact HB.out)) hb); clear HB; have HB := n0_; clear n0_; (try clear hb); (try clear hb2); (try clear hk); (try clear hi)) | ((with_reducible refine gate_callee (f := 24) rfl ?_); refine goesL_ (some 81) rfl rfl Try.func24 (by kernel_rfl) rfl #[.int .i64 a0] rfl (by (try simp only [List.map_toArray, List.map_cons, List.map_nil]); first | done | rfl | (simp only [List.length_drop, List.length_take]; rfl)) ?_; (with_reducible refine (chars_Allowed.calls k3 a0 false _ A38.out).mono ?_); rintro e w' ⟨rfl, ⟨nd, rfl⟩⟩; refine ⟨_, rfl, ?_⟩))
                                        go_ret
                                        exact ⟨by first | rfl | (simp [errW_none, errW_some] <;> rfl) | (simp [*, errW_none, errW_some] <;> rfl), by repeat (first | (with_reducible first | exact HB.out | apply below_alloc | apply pw_below_drewN | apply below_drew1) | exact HB.out)⟩
                                    · rw [if_neg c60] at H
                                      have c60b0 : (t182.toList == ([] : List UInt8)) = false := beq_eq_false_iff_ne.mpr c60
                                      have c60b1 : (t182.toList != ([] : List UInt8)) = true := bne_iff_ne.mpr c60
                                      obtain rfl := Option.some.inj H
                                      go_wp2_with (first | ((with_reducible refine gate_callee (f := 18) rfl ?_); refine goesL_ (some 70) rfl rfl Try.func18 (by kernel_rfl) rfl #[.string (((⟨#[38, 35]⟩ : ByteArray) ++ x4_2) ++ (⟨#[59]⟩ : ByteArray)), .int .i64 0] rfl (by (try simp only [List.map_toArray, List.map_cons, List.map_nil]); first | done | rfl | (simp only [List.length_drop, List.length_take]; rfl)) ?_; (with_reducible refine (chars_Entity.calls k3 (((⟨#[38, 35]⟩ : ByteArray) ++ x4_2) ++ (⟨#[59]⟩ : ByteArray)) 0 t182 t183 _ A34.out).mono ?_); rintro e w66 ⟨rfl, hb⟩; refine ⟨_, rfl, ?_⟩; have n0_ := Aside0.mk (below_step (by repeat (first | (with_reducible first | exact HB.out | apply below_alloc | apply pw_below_drewN | apply below_drew1) | exact HB.out)) hb); clear HB; have HB := n0_; clear n0_; (try clear hb); (try clear hb2); (try clear hk); (try clear hi)) | ((with_reducible refine gate_callee (f := 18) rfl ?_); refine goesL_ (some 77) rfl rfl Try.func18 (by kernel_rfl) rfl #[.string (((⟨#[120, 38, 35, 120]⟩ : ByteArray) ++ x6_3) ++ (⟨#[59]⟩ : ByteArray)), .int .i64 1] rfl (by (try simp only [List.map_toArray, List.map_cons, List.map_nil]); first | done | rfl | (simp only [List.length_drop, List.length_take]; rfl)) ?_; (with_reducible refine (chars_Entity.calls k3 (((⟨#[120, 38, 35, 120]⟩ : ByteArray) ++ x6_3) ++ (⟨#[59]⟩ : ByteArray)) 1 t184 t185 _ A37.out).mono ?_); rintro e w67 ⟨rfl, hb⟩; refine ⟨_, rfl, ?_⟩; have n0_ := Aside0.mk (below_step (by repeat (first | (with_reducible first | exact HB.out | apply below_alloc | apply pw_below_drewN | apply below_drew1) | exact HB.out)) hb); clear HB; have HB := n0_; clear n0_; (try clear hb); (try clear hb2); (try clear hk); (try clear hi)) | ((with_reducible refine gate_callee (f := 24) rfl ?_); refine goesL_ (some 81) rfl rfl Try.func24 (by kernel_rfl) rfl #[.int .i64 a0] rfl (by (try simp only [List.map_toArray, List.map_cons, List.map_nil]); first | done | rfl | (simp only [List.length_drop, List.length_take]; rfl)) ?_; (with_reducible refine (chars_Allowed.calls k3 a0 false _ A38.out).mono ?_); rintro e w' ⟨rfl, ⟨nd, rfl⟩⟩; refine ⟨_, rfl, ?_⟩))
                                      go_ret
                                      exact ⟨by first | rfl | (simp [errW_none, errW_some] <;> rfl) | (simp [*, errW_none, errW_some] <;> rfl), by repeat (first | (with_reducible first | exact HB.out | apply below_alloc | apply pw_below_drewN | apply below_drew1) | exact HB.out)⟩
                                  · replace c59 := Bool.eq_false_iff.mpr c59
                                    subst c59
                                    have H1 : (some false) = some r := by rw [if_neg (show ¬ (false = true) by decide)] at H; exact H
                                    clear H
                                    have H := H1
                                    clear H1
                                    obtain rfl := Option.some.inj H
                                    go_wp2_with (first | ((with_reducible refine gate_callee (f := 18) rfl ?_); refine goesL_ (some 70) rfl rfl Try.func18 (by kernel_rfl) rfl #[.string (((⟨#[38, 35]⟩ : ByteArray) ++ x4_2) ++ (⟨#[59]⟩ : ByteArray)), .int .i64 0] rfl (by (try simp only [List.map_toArray, List.map_cons, List.map_nil]); first | done | rfl | (simp only [List.length_drop, List.length_take]; rfl)) ?_; (with_reducible refine (chars_Entity.calls k3 (((⟨#[38, 35]⟩ : ByteArray) ++ x4_2) ++ (⟨#[59]⟩ : ByteArray)) 0 t182 t183 _ A34.out).mono ?_); rintro e w68 ⟨rfl, hb⟩; refine ⟨_, rfl, ?_⟩; have n0_ := Aside0.mk (below_step (by repeat (first | (with_reducible first | exact HB.out | apply below_alloc | apply pw_below_drewN | apply below_drew1) | exact HB.out)) hb); clear HB; have HB := n0_; clear n0_; (try clear hb); (try clear hb2); (try clear hk); (try clear hi)) | ((with_reducible refine gate_callee (f := 18) rfl ?_); refine goesL_ (some 77) rfl rfl Try.func18 (by kernel_rfl) rfl #[.string (((⟨#[120, 38, 35, 120]⟩ : ByteArray) ++ x6_3) ++ (⟨#[59]⟩ : ByteArray)), .int .i64 1] rfl (by (try simp only [List.map_toArray, List.map_cons, List.map_nil]); first | done | rfl | (simp only [List.length_drop, List.length_take]; rfl)) ?_; (with_reducible refine (chars_Entity.calls k3 (((⟨#[120, 38, 35, 120]⟩ : ByteArray) ++ x6_3) ++ (⟨#[59]⟩ : ByteArray)) 1 t184 t185 _ A37.out).mono ?_); rintro e w69 ⟨rfl, hb⟩; refine ⟨_, rfl, ?_⟩; have n0_ := Aside0.mk (below_step (by repeat (first | (with_reducible first | exact HB.out | apply below_alloc | apply pw_below_drewN | apply below_drew1) | exact HB.out)) hb); clear HB; have HB := n0_; clear n0_; (try clear hb); (try clear hb2); (try clear hk); (try clear hi)) | ((with_reducible refine gate_callee (f := 24) rfl ?_); refine goesL_ (some 81) rfl rfl Try.func24 (by kernel_rfl) rfl #[.int .i64 a0] rfl (by (try simp only [List.map_toArray, List.map_cons, List.map_nil]); first | done | rfl | (simp only [List.length_drop, List.length_take]; rfl)) ?_; (with_reducible refine (chars_Allowed.calls k3 a0 false _ A38.out).mono ?_); rintro e w' ⟨rfl, ⟨nd, rfl⟩⟩; refine ⟨_, rfl, ?_⟩))
                                    go_ret
                                    exact ⟨by first | rfl | (simp [errW_none, errW_some] <;> rfl) | (simp [*, errW_none, errW_some] <;> rfl), by repeat (first | (with_reducible first | exact HB.out | apply below_alloc | apply pw_below_drewN | apply below_drew1) | exact HB.out)⟩
                              · rw [if_neg c36] at H
                                exact absurd H (by simp)
                            · rw [if_neg c35] at H
                              exact absurd H (by simp)
                          · rw [if_neg c33] at H
                            exact absurd H (by simp)
                        · rw [if_neg c32] at H
                          exact absurd H (by simp)

/-- THE ONE PURE STATEMENT of topiarylaw11_CharsNumbers: yours. -/
def topiarylaw11_CharsNumbers.Pure : Prop := ∀ (a0 : Int), (Lit.int .i64 a0).wf = true → ∃ k, topiarylaw11_CharsNumbers.f k a0 = some true
theorem topiarylaw11_CharsNumbers.walk (P : topiarylaw11_CharsNumbers.Pure) (a0 : Int) (w : World) (w0 : (Lit.int .i64 a0).wf = true) :
    Calls Try.prog 6 #[.int .i64 a0] w fun e w' => e = .returned (.bool true) ∧ Below w.heap.size w w' := by
  obtain ⟨k, h⟩ := P a0 w0
  refine (topiarylaw11_CharsNumbers.calls k a0 true w h).mono ?_
  rintro e w' ⟨rfl, hd⟩
  exact ⟨rfl, hd⟩

end Go.Proofs.Ytekkaoenabjeiaa.Q
