-- Written by a program of this session (wip/tools/myprint.py); Lean checks it.
import Derived.Test.YtekkaoenabjeiaaQ0
import Derived.Test.YtekkaoenabjeiaaQ8
import Derived.Test.YtekkaoenabjeiaaQ19
import Derived.Test.YtekkaoenabjeiaaQ20
import Derived.Test.YtekkaoenabjeiaaQ21
import Derived.Test.YtekkaoenabjeiaaNames
namespace Go.Proofs.Ytekkaoenabjeiaa.X
end Go.Proofs.Ytekkaoenabjeiaa.X
namespace Go.Proofs.Ytekkaoenabjeiaa.Q
open Go.RowKit Go.Proofs.YtekkaoenabjeiaaW.PrintWords Go.Proofs.YtekkaoenabjeiaaW.PrintLast Go.Proofs.YtekkaoenabjeiaaW.PrintMore
attribute [local go_sem] max2_int min2_int max_two min_two max_three min_three max_four min_four   -- for this text's walks alone
open Go.Proofs.Ytekkaoenabjeiaa.X
set_option linter.unusedVariables false
set_option linter.unusedSimpArgs false

/-! ### topiarylaw11_CharsNames: function 9 -/
def topiarylaw11_CharsNames.j0 : Nat → ByteArray → Int → Int → Bool → Bool → Option (Bool)
  | 0, _, _, _, _, _ => none
  | k + 1, x0, x1, x2, x7, x8 => if x7 = true then ((chars_NameEnd.f x0 x1).bind fun t221 => ((topiaryref11_NameEnd.f k x0 x1).bind fun t222 => (if t221 = t222 then ((chars_Skip.f x0 x1).bind fun t223 => ((topiaryref11_Skip.f k x0 x1).bind fun t224 => (if t223 = t224 then ((chars_Space.f x2).bind fun t225 => ((topiaryref11_Space.f x2).bind fun t226 => (if (t225 == t226) = true then ((chars_Name.f x0).bind fun t227 => (some (t227 == x8))) else (some false)))) else (some false)))) else (some false)))) else (some false)
def topiarylaw11_CharsNames.f (k : Nat) (a0 : ByteArray) (a1 : Int) (a2 : Int) : Option (Bool) := (topiarylaw11_awake.f k).bind fun t218 => ((topiarylaw11_short.f a0 40).bind fun t219 => (if (t219.size : Int) > 0 then ((topiaryref11_NameEnd.f k t219 0).bind fun t220 => (topiarylaw11_CharsNames.j0 k t219 a1 a2 t218 (t220 == (t219.size : Int)))) else (topiarylaw11_CharsNames.j0 k t219 a1 a2 t218 false)))
theorem topiarylaw11_CharsNames.mono_l : ∀ k, (∀ y0 y1 y2 y3 y4, LeO (topiarylaw11_CharsNames.j0 k y0 y1 y2 y3 y4) (topiarylaw11_CharsNames.j0 (k + 1) y0 y1 y2 y3 y4))
  | 0 => fun _ _ _ _ _ r h => by simp [topiarylaw11_CharsNames.j0] at h
  | k + 1 => by
    have ih0 := topiarylaw11_CharsNames.mono_l k
    · intro y0 y1 y2 y3 y4
      unfold topiarylaw11_CharsNames.j0
      repeat' first
      | (with_reducible exact ih0 _ _ _ _ _)
      | (with_reducible exact topiarylaw11_awake.mono _)
      | (with_reducible exact topiaryref11_NameEnd.mono _ _ _)
      | (with_reducible exact topiaryref11_Skip.mono _ _ _)
      | (with_reducible exact LeO.refl _)
      | (with_reducible exact LeO.none _)
      | (with_reducible refine LeO.ite ?_ ?_)
      | (with_reducible refine LeO.bind ?_ (fun _ => ?_))
      | exact ih0 _ _ _ _ _
      | exact topiarylaw11_awake.mono _
      | exact topiaryref11_NameEnd.mono _ _ _
      | exact topiaryref11_Skip.mono _ _ _
      | exact LeO.none _
      | refine LeO.ite ?_ ?_
      | refine LeO.bind ?_ (fun _ => ?_)
theorem topiarylaw11_CharsNames.mono : ∀ a0 a1 a2 k, LeO (topiarylaw11_CharsNames.f k a0 a1 a2) (topiarylaw11_CharsNames.f (k + 1) a0 a1 a2) := by
  intro a0 a1 a2 k
  have ih0 := topiarylaw11_CharsNames.mono_l k
  unfold topiarylaw11_CharsNames.f
  repeat' first
      | (with_reducible exact ih0 _ _ _ _ _)
      | (with_reducible exact topiarylaw11_awake.mono _)
      | (with_reducible exact topiaryref11_NameEnd.mono _ _ _)
      | (with_reducible exact topiaryref11_Skip.mono _ _ _)
      | (with_reducible exact LeO.refl _)
      | (with_reducible exact LeO.none _)
      | (with_reducible refine LeO.ite ?_ ?_)
      | (with_reducible refine LeO.bind ?_ (fun _ => ?_))
      | exact ih0 _ _ _ _ _
      | exact topiarylaw11_awake.mono _
      | exact topiaryref11_NameEnd.mono _ _ _
      | exact topiaryref11_Skip.mono _ _ _
      | exact LeO.none _
      | refine LeO.ite ?_ ?_
      | refine LeO.bind ?_ (fun _ => ?_)
set_option maxHeartbeats 8000000 in
set_option maxRecDepth 100000 in
theorem topiarylaw11_CharsNames.calls (k : Nat) (a0 : ByteArray) (a1 : Int) (a2 : Int) (r : Bool) (w : World) (h : topiarylaw11_CharsNames.f k a0 a1 a2 = some r) :
    Calls Try.prog 9 #[.string a0, .int .i64 a1, .int .u8 a2] w fun e w' => e = .returned (.bool r) ∧ Below w.heap.size w w' := by
  have HB := Aside0.mk (Below.refl w.heap.size w)
  have H : ((topiarylaw11_awake.f k).bind fun t218 => ((topiarylaw11_short.f a0 40).bind fun t219 => (if (t219.size : Int) > 0 then ((topiaryref11_NameEnd.f k t219 0).bind fun t220 => (topiarylaw11_CharsNames.j0 k t219 a1 a2 t218 (t220 == (t219.size : Int)))) else (topiarylaw11_CharsNames.j0 k t219 a1 a2 t218 false)))) = some r := h
  clear h
  replace H := Option.bind_eq_some_iff.mp H
  obtain ⟨t218, A40, H⟩ := H
  replace H : ((topiarylaw11_short.f a0 40).bind fun t219 => (if (t219.size : Int) > 0 then ((topiaryref11_NameEnd.f k t219 0).bind fun t220 => (topiarylaw11_CharsNames.j0 k t219 a1 a2 t218 (t220 == (t219.size : Int)))) else (topiarylaw11_CharsNames.j0 k t219 a1 a2 t218 false))) = some r := H
  have A4 := Aside0.mk A40
  clear A40
  replace H := Option.bind_eq_some_iff.mp H
  obtain ⟨t219, A50, H⟩ := H
  replace H : (if (t219.size : Int) > 0 then ((topiaryref11_NameEnd.f k t219 0).bind fun t220 => (topiarylaw11_CharsNames.j0 k t219 a1 a2 t218 (t220 == (t219.size : Int)))) else (topiarylaw11_CharsNames.j0 k t219 a1 a2 t218 false)) = some r := H
  have A5 := Aside0.mk A50
  clear A50
  have HC6 := Aside0.mk H
  clear H
  go_enter Try.func9, Try.ntmps9
  go_upto_region 3 with (first | ((with_reducible refine gate_callee (f := 16) rfl ?_); refine goesL_ (some 9) rfl rfl Try.func16 (by kernel_rfl) rfl #[] rfl (by (try simp only [List.map_toArray, List.map_cons, List.map_nil]); first | done | rfl | (simp only [List.length_drop, List.length_take]; rfl)) ?_; (with_reducible refine (topiarylaw11_awake.calls k  t218 _ A4.out).mono ?_); rintro e w7 ⟨rfl, hb⟩; refine ⟨_, rfl, ?_⟩; have n0_ := Aside0.mk (below_step (by repeat (first | (with_reducible first | exact HB.out | apply below_alloc | apply pw_below_drewN | apply below_drew1) | exact HB.out)) hb); clear HB; have HB := n0_; clear n0_; (try clear hb); (try clear hb2); (try clear hk); (try clear hi)) | ((with_reducible refine gate_callee (f := 17) rfl ?_); refine goesL_ (some 11) rfl rfl Try.func17 (by kernel_rfl) rfl #[.string a0, .int .i64 40] rfl (by (try simp only [List.map_toArray, List.map_cons, List.map_nil]); first | done | rfl | (simp only [List.length_drop, List.length_take]; rfl)) ?_; (with_reducible refine (topiarylaw11_short.calls a0 40 t219 _ A5.out).mono ?_); rintro e w' ⟨rfl, ⟨nd, rfl⟩⟩; refine ⟨_, rfl, ?_⟩))
  (try simp only [Act.put, List.setIfInBounds_toArray, List.set_cons_zero, List.set_cons_succ])
  go_cut [8] (fun v8 wc => ∃ (kq : Nat) (x8_5 : Bool), v8 = .bool x8_5 ∧ Aside0 (topiarylaw11_CharsNames.j0 kq t219 a1 a2 t218 x8_5 = some r) ∧ Aside0 (kq ≤ k) ∧ Aside0 (Below w.heap.size w wc))
  case first =>
    have H := HC6.out
    clear HC6
    by_cases c8 : (t219.size : Int) > 0
    · rw [if_pos c8] at H
      have c8b0 : decide (0 < (t219.size : Int)) = true := decide_eq_true c8
      have c8b1 : decide (0 < t219.size) = true := decide_eq_true (by omega)
      clear c8
      (first | rw [c8b0] | (simp only [i64_w, i32_w]; rw [c8b0]) | skip)
      replace H := Option.bind_eq_some_iff.mp H
      obtain ⟨t220, A90, H⟩ := H
      replace H : (topiarylaw11_CharsNames.j0 k t219 a1 a2 t218 (t220 == (t219.size : Int))) = some r := H
      have A9 := Aside0.mk A90
      clear A90
      have H' := Aside0.mk H
      clear H
      go_wp2_with (first | (go_at_call 30; (with_reducible refine (topiaryref11_NameEnd.calls k t219 0 t220 _ A9.out).mono ?_); rintro e w' ⟨rfl, ⟨nd, rfl⟩⟩))
      go_meet
      case rel => exact ⟨_, ((t220 == (t219.size : Int))), (by first | rfl | (simp; done) | (simp [*]; done)), H', ⟨by first | omega | exact Nat.le_refl _⟩, ⟨by repeat (first | (with_reducible first | exact HB.out | apply below_alloc | apply pw_below_drewN | apply below_drew1) | exact HB.out)⟩⟩
    · rw [if_neg c8] at H
      have c8b0 : decide (0 < (t219.size : Int)) = false := decide_eq_false c8
      have c8b1 : decide (0 < t219.size) = false := decide_eq_false (by omega)
      clear c8
      (first | rw [c8b0] | (simp only [i64_w, i32_w]; rw [c8b0]) | skip)
      have H' := Aside0.mk H
      clear H
      go_wp2
      go_meet
      case rel => exact ⟨_, (false), (by first | rfl | (simp; done) | (simp [*]; done)), H', ⟨by first | omega | exact Nat.le_refl _⟩, ⟨by repeat (first | (with_reducible first | exact HB.out | apply below_alloc | apply pw_below_drewN | apply below_drew1) | exact HB.out)⟩⟩
  case rest =>
    clear HC6
    try clear c1
    try clear p2
    try clear c8
    try clear c8b0
    try clear c8b1
    try clear c9
    obtain ⟨kq, x8_5, rfl, HA, HJ5, HB⟩ := hcut
    cases kq with
    | zero => exact absurd HA.out (by simp [topiarylaw11_CharsNames.j0])
    | succ kj5 =>
      have H := HA.out
      clear HA
      simp only [topiarylaw11_CharsNames.j0] at H
      by_cases c10 : t218 = true
      · subst c10
        have H1 : ((chars_NameEnd.f t219 a1).bind fun t221 => ((topiaryref11_NameEnd.f kj5 t219 a1).bind fun t222 => (if t221 = t222 then ((chars_Skip.f t219 a1).bind fun t223 => ((topiaryref11_Skip.f kj5 t219 a1).bind fun t224 => (if t223 = t224 then ((chars_Space.f a2).bind fun t225 => ((topiaryref11_Space.f a2).bind fun t226 => (if (t225 == t226) = true then ((chars_Name.f t219).bind fun t227 => (some (t227 == x8_5))) else (some false)))) else (some false)))) else (some false)))) = some r := by rw [if_pos rfl] at H; exact H
        clear H
        have H := H1
        clear H1
        replace H := Option.bind_eq_some_iff.mp H
        obtain ⟨t221, A110, H⟩ := H
        replace H : ((topiaryref11_NameEnd.f kj5 t219 a1).bind fun t222 => (if t221 = t222 then ((chars_Skip.f t219 a1).bind fun t223 => ((topiaryref11_Skip.f kj5 t219 a1).bind fun t224 => (if t223 = t224 then ((chars_Space.f a2).bind fun t225 => ((topiaryref11_Space.f a2).bind fun t226 => (if (t225 == t226) = true then ((chars_Name.f t219).bind fun t227 => (some (t227 == x8_5))) else (some false)))) else (some false)))) else (some false))) = some r := H
        have A11 := Aside0.mk A110
        clear A110
        replace H := Option.bind_eq_some_iff.mp H
        obtain ⟨t222, A120, H⟩ := H
        replace H : (if t221 = t222 then ((chars_Skip.f t219 a1).bind fun t223 => ((topiaryref11_Skip.f kj5 t219 a1).bind fun t224 => (if t223 = t224 then ((chars_Space.f a2).bind fun t225 => ((topiaryref11_Space.f a2).bind fun t226 => (if (t225 == t226) = true then ((chars_Name.f t219).bind fun t227 => (some (t227 == x8_5))) else (some false)))) else (some false)))) else (some false)) = some r := H
        have A12 := Aside0.mk A120
        clear A120
        by_cases c13 : t221 = t222
        · rw [if_pos c13] at H
          have c13b0 : (t221 == t222) = true := beq_iff_eq.mpr c13
          have c13b1 : (t221 != t222) = false := bne_eq_false_iff_eq.mpr c13
          clear c13
          replace H := Option.bind_eq_some_iff.mp H
          obtain ⟨t223, A140, H⟩ := H
          replace H : ((topiaryref11_Skip.f kj5 t219 a1).bind fun t224 => (if t223 = t224 then ((chars_Space.f a2).bind fun t225 => ((topiaryref11_Space.f a2).bind fun t226 => (if (t225 == t226) = true then ((chars_Name.f t219).bind fun t227 => (some (t227 == x8_5))) else (some false)))) else (some false))) = some r := H
          have A14 := Aside0.mk A140
          clear A140
          replace H := Option.bind_eq_some_iff.mp H
          obtain ⟨t224, A150, H⟩ := H
          replace H : (if t223 = t224 then ((chars_Space.f a2).bind fun t225 => ((topiaryref11_Space.f a2).bind fun t226 => (if (t225 == t226) = true then ((chars_Name.f t219).bind fun t227 => (some (t227 == x8_5))) else (some false)))) else (some false)) = some r := H
          have A15 := Aside0.mk A150
          clear A150
          by_cases c16 : t223 = t224
          · rw [if_pos c16] at H
            have c16b0 : (t223 == t224) = true := beq_iff_eq.mpr c16
            have c16b1 : (t223 != t224) = false := bne_eq_false_iff_eq.mpr c16
            clear c16
            replace H := Option.bind_eq_some_iff.mp H
            obtain ⟨t225, A170, H⟩ := H
            replace H : ((topiaryref11_Space.f a2).bind fun t226 => (if (t225 == t226) = true then ((chars_Name.f t219).bind fun t227 => (some (t227 == x8_5))) else (some false))) = some r := H
            have A17 := Aside0.mk A170
            clear A170
            replace H := Option.bind_eq_some_iff.mp H
            obtain ⟨t226, A180, H⟩ := H
            replace H : (if (t225 == t226) = true then ((chars_Name.f t219).bind fun t227 => (some (t227 == x8_5))) else (some false)) = some r := H
            have A18 := Aside0.mk A180
            clear A180
            by_cases c19 : (t225 == t226) = true
            · rw [if_pos c19] at H
              have c19b0 : (t225 == t226) = true := c19
              (try (have c19b1 : decide (t225 = t226) = true := by simpa using c19))
              (try (have c19b2 : (t225 == t226) = true := by simpa using c19))
              clear c19
              replace H := Option.bind_eq_some_iff.mp H
              obtain ⟨t227, A200, H⟩ := H
              replace H : (some (t227 == x8_5)) = some r := H
              have A20 := Aside0.mk A200
              clear A200
              obtain rfl := Option.some.inj H
              go_wp2_with (first | (go_at_call 31; (with_reducible refine (chars_NameEnd.calls t219 a1 t221 _ A11.out).mono ?_); rintro e w21 ⟨rfl, hb⟩; have n0_ := Aside0.mk (below_step (by repeat (first | (with_reducible first | exact HB.out | apply below_alloc | apply pw_below_drewN | apply below_drew1) | exact HB.out)) hb); clear HB; have HB := n0_; clear n0_; (try clear hb); (try clear hb2); (try clear hk); (try clear hi)) | (go_at_call 30; (with_reducible refine (topiaryref11_NameEnd.calls kj5 t219 a1 t222 _ A12.out).mono ?_); rintro e w' ⟨rfl, ⟨nd, rfl⟩⟩) | (go_at_call 32; (with_reducible refine (chars_Skip.calls t219 a1 t223 _ A14.out).mono ?_); rintro e w22 ⟨rfl, hb⟩; have n0_ := Aside0.mk (below_step (by repeat (first | (with_reducible first | exact HB.out | apply below_alloc | apply pw_below_drewN | apply below_drew1) | exact HB.out)) hb); clear HB; have HB := n0_; clear n0_; (try clear hb); (try clear hb2); (try clear hk); (try clear hi)) | (go_at_call 33; (with_reducible refine (topiaryref11_Skip.calls kj5 t219 a1 t224 _ A15.out).mono ?_); rintro e w' ⟨rfl, ⟨nd, rfl⟩⟩) | (go_at_call 34; (with_reducible refine (chars_Space.calls a2 t225 _ A17.out).mono ?_); rintro e w' ⟨rfl, ⟨nd, rfl⟩⟩) | (go_at_call 35; (with_reducible refine (topiaryref11_Space.calls a2 t226 _ A18.out).mono ?_); rintro e w' ⟨rfl, ⟨nd, rfl⟩⟩) | (go_at_call 36; (with_reducible refine (chars_Name.calls t219 t227 _ A20.out).mono ?_); rintro e w23 ⟨rfl, hb⟩; have n0_ := Aside0.mk (below_step (by repeat (first | (with_reducible first | exact HB.out | apply below_alloc | apply pw_below_drewN | apply below_drew1) | exact HB.out)) hb); clear HB; have HB := n0_; clear n0_; (try clear hb); (try clear hb2); (try clear hk); (try clear hi)))
              go_ret
              exact ⟨by first | rfl | (simp [errW_none, errW_some] <;> rfl) | (simp [*, errW_none, errW_some] <;> rfl), by repeat (first | (with_reducible first | exact HB.out | apply below_alloc | apply pw_below_drewN | apply below_drew1) | exact HB.out)⟩
            · rw [if_neg c19] at H
              have c19b0 : (t225 == t226) = false := by simpa using c19
              (try (have c19b1 : decide (t225 = t226) = false := by simpa using c19))
              (try (have c19b2 : (t225 == t226) = false := by simpa using c19))
              (try (have c19b3 : ¬ (t225 = t226) := by simpa using c19))
              clear c19
              obtain rfl := Option.some.inj H
              go_wp2_with (first | (go_at_call 31; (with_reducible refine (chars_NameEnd.calls t219 a1 t221 _ A11.out).mono ?_); rintro e w24 ⟨rfl, hb⟩; have n0_ := Aside0.mk (below_step (by repeat (first | (with_reducible first | exact HB.out | apply below_alloc | apply pw_below_drewN | apply below_drew1) | exact HB.out)) hb); clear HB; have HB := n0_; clear n0_; (try clear hb); (try clear hb2); (try clear hk); (try clear hi)) | (go_at_call 30; (with_reducible refine (topiaryref11_NameEnd.calls kj5 t219 a1 t222 _ A12.out).mono ?_); rintro e w' ⟨rfl, ⟨nd, rfl⟩⟩) | (go_at_call 32; (with_reducible refine (chars_Skip.calls t219 a1 t223 _ A14.out).mono ?_); rintro e w25 ⟨rfl, hb⟩; have n0_ := Aside0.mk (below_step (by repeat (first | (with_reducible first | exact HB.out | apply below_alloc | apply pw_below_drewN | apply below_drew1) | exact HB.out)) hb); clear HB; have HB := n0_; clear n0_; (try clear hb); (try clear hb2); (try clear hk); (try clear hi)) | (go_at_call 33; (with_reducible refine (topiaryref11_Skip.calls kj5 t219 a1 t224 _ A15.out).mono ?_); rintro e w' ⟨rfl, ⟨nd, rfl⟩⟩) | (go_at_call 34; (with_reducible refine (chars_Space.calls a2 t225 _ A17.out).mono ?_); rintro e w' ⟨rfl, ⟨nd, rfl⟩⟩) | (go_at_call 35; (with_reducible refine (topiaryref11_Space.calls a2 t226 _ A18.out).mono ?_); rintro e w' ⟨rfl, ⟨nd, rfl⟩⟩))
              go_ret
              exact ⟨by first | rfl | (simp [errW_none, errW_some] <;> rfl) | (simp [*, errW_none, errW_some] <;> rfl), by repeat (first | (with_reducible first | exact HB.out | apply below_alloc | apply pw_below_drewN | apply below_drew1) | exact HB.out)⟩
          · rw [if_neg c16] at H
            have c16b0 : (t223 == t224) = false := beq_eq_false_iff_ne.mpr c16
            have c16b1 : (t223 != t224) = true := bne_iff_ne.mpr c16
            obtain rfl := Option.some.inj H
            go_wp2_with (first | (go_at_call 31; (with_reducible refine (chars_NameEnd.calls t219 a1 t221 _ A11.out).mono ?_); rintro e w26 ⟨rfl, hb⟩; have n0_ := Aside0.mk (below_step (by repeat (first | (with_reducible first | exact HB.out | apply below_alloc | apply pw_below_drewN | apply below_drew1) | exact HB.out)) hb); clear HB; have HB := n0_; clear n0_; (try clear hb); (try clear hb2); (try clear hk); (try clear hi)) | (go_at_call 30; (with_reducible refine (topiaryref11_NameEnd.calls kj5 t219 a1 t222 _ A12.out).mono ?_); rintro e w' ⟨rfl, ⟨nd, rfl⟩⟩) | (go_at_call 32; (with_reducible refine (chars_Skip.calls t219 a1 t223 _ A14.out).mono ?_); rintro e w27 ⟨rfl, hb⟩; have n0_ := Aside0.mk (below_step (by repeat (first | (with_reducible first | exact HB.out | apply below_alloc | apply pw_below_drewN | apply below_drew1) | exact HB.out)) hb); clear HB; have HB := n0_; clear n0_; (try clear hb); (try clear hb2); (try clear hk); (try clear hi)) | (go_at_call 33; (with_reducible refine (topiaryref11_Skip.calls kj5 t219 a1 t224 _ A15.out).mono ?_); rintro e w' ⟨rfl, ⟨nd, rfl⟩⟩))
            go_ret
            exact ⟨by first | rfl | (simp [errW_none, errW_some] <;> rfl) | (simp [*, errW_none, errW_some] <;> rfl), by repeat (first | (with_reducible first | exact HB.out | apply below_alloc | apply pw_below_drewN | apply below_drew1) | exact HB.out)⟩
        · rw [if_neg c13] at H
          have c13b0 : (t221 == t222) = false := beq_eq_false_iff_ne.mpr c13
          have c13b1 : (t221 != t222) = true := bne_iff_ne.mpr c13
          obtain rfl := Option.some.inj H
          go_wp2_with (first | (go_at_call 31; (with_reducible refine (chars_NameEnd.calls t219 a1 t221 _ A11.out).mono ?_); rintro e w28 ⟨rfl, hb⟩; have n0_ := Aside0.mk (below_step (by repeat (first | (with_reducible first | exact HB.out | apply below_alloc | apply pw_below_drewN | apply below_drew1) | exact HB.out)) hb); clear HB; have HB := n0_; clear n0_; (try clear hb); (try clear hb2); (try clear hk); (try clear hi)) | (go_at_call 30; (with_reducible refine (topiaryref11_NameEnd.calls kj5 t219 a1 t222 _ A12.out).mono ?_); rintro e w' ⟨rfl, ⟨nd, rfl⟩⟩))
          go_ret
          exact ⟨by first | rfl | (simp [errW_none, errW_some] <;> rfl) | (simp [*, errW_none, errW_some] <;> rfl), by repeat (first | (with_reducible first | exact HB.out | apply below_alloc | apply pw_below_drewN | apply below_drew1) | exact HB.out)⟩
      · replace c10 := Bool.eq_false_iff.mpr c10
        subst c10
        have H1 : (some false) = some r := by rw [if_neg (show ¬ (false = true) by decide)] at H; exact H
        clear H
        have H := H1
        clear H1
        obtain rfl := Option.some.inj H
        go_wp2
        go_ret
        exact ⟨by first | rfl | (simp [errW_none, errW_some] <;> rfl) | (simp [*, errW_none, errW_some] <;> rfl), by repeat (first | (with_reducible first | exact HB.out | apply below_alloc | apply pw_below_drewN | apply below_drew1) | exact HB.out)⟩

/-- THE ONE PURE STATEMENT of topiarylaw11_CharsNames: yours. -/
def topiarylaw11_CharsNames.Pure : Prop := ∀ (a0 : ByteArray) (a1 : Int) (a2 : Int), a0.size ≤ 140737488351232 → (Lit.int .i64 a1).wf = true → (Lit.int .u8 a2).wf = true → ∃ k, topiarylaw11_CharsNames.f k a0 a1 a2 = some true
theorem topiarylaw11_CharsNames.walk (P : topiarylaw11_CharsNames.Pure) (a0 : ByteArray) (a1 : Int) (a2 : Int) (w : World) (w0 : a0.size ≤ 140737488351232) (w1 : (Lit.int .i64 a1).wf = true) (w2 : (Lit.int .u8 a2).wf = true) :
    Calls Try.prog 9 #[.string a0, .int .i64 a1, .int .u8 a2] w fun e w' => e = .returned (.bool true) ∧ Below w.heap.size w w' := by
  obtain ⟨k, h⟩ := P a0 a1 a2 w0 w1 w2
  refine (topiarylaw11_CharsNames.calls k a0 a1 a2 true w h).mono ?_
  rintro e w' ⟨rfl, hd⟩
  exact ⟨rfl, hd⟩

end Go.Proofs.Ytekkaoenabjeiaa.Q
