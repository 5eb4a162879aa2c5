-- Written by a program of this session (wip/tools/myprint.py); Lean checks it.
import Derived.Test.YtekkaoenabjeiaaQ0
import Derived.Test.YtekkaoenabjeiaaQ2
import Derived.Test.YtekkaoenabjeiaaQ14
namespace Go.Proofs.Ytekkaoenabjeiaa.X
end Go.Proofs.Ytekkaoenabjeiaa.X
namespace Go.Proofs.Ytekkaoenabjeiaa.Q
open Go.RowKit Go.Proofs.YtekkaoenabjeiaaW.PrintWords Go.Proofs.YtekkaoenabjeiaaW.PrintLast Go.Proofs.YtekkaoenabjeiaaW.PrintMore
attribute [local go_sem] max2_int min2_int max_two min_two max_three min_three max_four min_four   -- for this text's walks alone
open Go.Proofs.Ytekkaoenabjeiaa.X
set_option linter.unusedVariables false
set_option linter.unusedSimpArgs false

/-! ### topiaryref11_Valid: function 29 -/
def topiaryref11_Valid.l0 : Nat → ByteArray → Int → Option (Bool)
  | 0, _, _ => none
  | k + 1, x0, x3 => if x3 < (x0.size : Int) then ((topiaryref11_Rune.f k x0 x3).bind fun bt192 => ((topiaryref11_Allowed.f bt192.1).bind fun t194 => (if bt192.2 = 0 then (some false) else (if t194 = true then (topiaryref11_Valid.l0 k x0 (wrap64 (x3 + bt192.2))) else (some false))))) else (some true)
def topiaryref11_Valid.f (k : Nat) (a0 : ByteArray) : Option (Bool) := topiaryref11_Valid.l0 k a0 0
theorem topiaryref11_Valid.mono_l : ∀ k, (∀ y0 y1, LeO (topiaryref11_Valid.l0 k y0 y1) (topiaryref11_Valid.l0 (k + 1) y0 y1))
  | 0 => fun _ _ r h => by simp [topiaryref11_Valid.l0] at h
  | k + 1 => by
    have ih0 := topiaryref11_Valid.mono_l k
    · intro y0 y1
      unfold topiaryref11_Valid.l0
      repeat' first
      | (with_reducible exact ih0 _ _)
      | (with_reducible exact topiaryref11_Rune.mono _ _ _)
      | (with_reducible exact LeO.refl _)
      | (with_reducible exact LeO.none _)
      | (with_reducible refine LeO.ite ?_ ?_)
      | (with_reducible refine LeO.bind ?_ (fun _ => ?_))
      | exact ih0 _ _
      | exact topiaryref11_Rune.mono _ _ _
      | exact LeO.none _
      | refine LeO.ite ?_ ?_
      | refine LeO.bind ?_ (fun _ => ?_)
theorem topiaryref11_Valid.mono : ∀ a0 k, LeO (topiaryref11_Valid.f k a0) (topiaryref11_Valid.f (k + 1) a0) := by
  intro a0 k
  have ih0 := topiaryref11_Valid.mono_l k
  unfold topiaryref11_Valid.f
  repeat' first
      | (with_reducible exact ih0 _ _)
      | (with_reducible exact topiaryref11_Rune.mono _ _ _)
      | (with_reducible exact LeO.refl _)
      | (with_reducible exact LeO.none _)
      | (with_reducible refine LeO.ite ?_ ?_)
      | (with_reducible refine LeO.bind ?_ (fun _ => ?_))
      | exact ih0 _ _
      | exact topiaryref11_Rune.mono _ _ _
      | exact LeO.none _
      | refine LeO.ite ?_ ?_
      | refine LeO.bind ?_ (fun _ => ?_)
set_option maxHeartbeats 8000000 in
set_option maxRecDepth 100000 in
theorem topiaryref11_Valid.calls (k : Nat) (a0 : ByteArray) (r : Bool) (w : World) (h : topiaryref11_Valid.f k a0 = some r) :
    Calls Try.prog 29 #[.string a0] w fun e w' => e = .returned (.bool r) ∧ Below w.heap.size w w' := by
  have HB := Aside0.mk (Below.refl w.heap.size w)
  have H : (topiaryref11_Valid.l0 k a0 0) = some r := h
  clear h
  have H' := Aside0.mk H
  clear H
  go_enter Try.func29, Try.ntmps29
  go_wp2
  go_loopg [3] k (fun kq v3 w' => ∃ (x3_1 : Int), v3 = .int .i64 x3_1 ∧ Aside0 (topiaryref11_Valid.l0 kq a0 x3_1 = some r) ∧ Aside0 (kq ≤ k) ∧ Aside0 (Below w.heap.size w w'))
  case atStart => exact ⟨(0), (by first | rfl | (simp; done) | (simp [*]; done)), H', ⟨Nat.le_refl _⟩, ⟨by repeat (first | (with_reducible first | exact HB.out | apply below_alloc | apply pw_below_drewN | apply below_drew1) | exact HB.out)⟩⟩
  case round =>
    clear H'
    obtain ⟨x3_1, rfl, HA, HK1, HB⟩ := hrel
    cases gk with
    | zero => exact absurd HA.out (by simp [topiaryref11_Valid.l0])
    | succ k1 =>
      have H := HA.out
      clear HA
      simp only [topiaryref11_Valid.l0] at H
      by_cases c2 : x3_1 < (a0.size : Int)
      · rw [if_pos c2] at H
        have c2b0 : decide (x3_1 < (a0.size : Int)) = true := decide_eq_true c2
        clear c2
        replace H := Option.bind_eq_some_iff.mp H
        obtain ⟨⟨t192, t193⟩, A30, H⟩ := H
        replace H : ((topiaryref11_Allowed.f t192).bind fun t194 => (if t193 = 0 then (some false) else (if t194 = true then (topiaryref11_Valid.l0 k1 a0 (wrap64 (x3_1 + t193))) else (some false)))) = some r := H
        have A3 := Aside0.mk A30
        clear A30
        replace H := Option.bind_eq_some_iff.mp H
        obtain ⟨t194, A40, H⟩ := H
        replace H : (if t193 = 0 then (some false) else (if t194 = true then (topiaryref11_Valid.l0 k1 a0 (wrap64 (x3_1 + t193))) else (some false))) = some r := H
        have A4 := Aside0.mk A40
        clear A40
        by_cases c5 : t193 = 0
        · rw [if_pos c5] at H
          have c5b0 : (t193 == 0) = true := beq_iff_eq.mpr c5
          have c5b1 : (t193 != 0) = false := bne_eq_false_iff_eq.mpr c5
          clear c5
          obtain rfl := Option.some.inj H
          go_wp2_with (first | ((with_reducible refine gate_callee (f := 25) rfl ?_); refine goesL_ (some 14) rfl rfl Try.func25 (by kernel_rfl) rfl #[.string a0, .int .i64 x3_1] rfl (by (try simp only [List.map_toArray, List.map_cons, List.map_nil]); first | done | rfl | (simp only [List.length_drop, List.length_take]; rfl)) ?_; (with_reducible refine (topiaryref11_Rune.calls k1 a0 x3_1 t192 t193 _ A3.out).mono ?_); rintro e w6 ⟨rfl, hb⟩; refine ⟨_, rfl, ?_⟩; have n0_ := Aside0.mk (below_step (by repeat (first | (with_reducible first | exact HB.out | apply below_alloc | apply pw_below_drewN | apply below_drew1) | exact HB.out)) hb); clear HB; have HB := n0_; clear n0_; (try clear hb); (try clear hb2); (try clear hk); (try clear hi)) | ((with_reducible refine gate_callee (f := 27) rfl ?_); refine goesL_ (some 18) rfl rfl Try.func27 (by kernel_rfl) rfl #[.int .i64 t192] rfl (by (try simp only [List.map_toArray, List.map_cons, List.map_nil]); first | done | rfl | (simp only [List.length_drop, List.length_take]; rfl)) ?_; (with_reducible refine (topiaryref11_Allowed.calls t192 t194 _ A4.out).mono ?_); rintro e w' ⟨rfl, ⟨nd, rfl⟩⟩; refine ⟨_, rfl, ?_⟩))
          go_ret
          exact ⟨by first | rfl | (simp [errW_none, errW_some] <;> rfl) | (simp [*, errW_none, errW_some] <;> rfl), by repeat (first | (with_reducible first | exact HB.out | apply below_alloc | apply pw_below_drewN | apply below_drew1) | exact HB.out)⟩
        · rw [if_neg c5] at H
          have c5b0 : (t193 == 0) = false := beq_eq_false_iff_ne.mpr c5
          have c5b1 : (t193 != 0) = true := bne_iff_ne.mpr c5
          by_cases c7 : t194 = true
          · subst c7
            have H1 : (topiaryref11_Valid.l0 k1 a0 (wrap64 (x3_1 + t193))) = some r := by rw [if_pos rfl] at H; exact H
            clear H
            have H := H1
            clear H1
            have H' := Aside0.mk H
            clear H
            go_wp2_with (first | ((with_reducible refine gate_callee (f := 25) rfl ?_); refine goesL_ (some 14) rfl rfl Try.func25 (by kernel_rfl) rfl #[.string a0, .int .i64 x3_1] rfl (by (try simp only [List.map_toArray, List.map_cons, List.map_nil]); first | done | rfl | (simp only [List.length_drop, List.length_take]; rfl)) ?_; (with_reducible refine (topiaryref11_Rune.calls k1 a0 x3_1 t192 t193 _ A3.out).mono ?_); rintro e w8 ⟨rfl, hb⟩; refine ⟨_, rfl, ?_⟩; have n0_ := Aside0.mk (below_step (by repeat (first | (with_reducible first | exact HB.out | apply below_alloc | apply pw_below_drewN | apply below_drew1) | exact HB.out)) hb); clear HB; have HB := n0_; clear n0_; (try clear hb); (try clear hb2); (try clear hk); (try clear hi)) | ((with_reducible refine gate_callee (f := 27) rfl ?_); refine goesL_ (some 18) rfl rfl Try.func27 (by kernel_rfl) rfl #[.int .i64 t192] rfl (by (try simp only [List.map_toArray, List.map_cons, List.map_nil]); first | done | rfl | (simp only [List.length_drop, List.length_take]; rfl)) ?_; (with_reducible refine (topiaryref11_Allowed.calls t192 true _ A4.out).mono ?_); rintro e w' ⟨rfl, ⟨nd, rfl⟩⟩; refine ⟨_, rfl, ?_⟩))
            go_roundg k1
            case measure => have := HK1.out; omega
            case rel => exact ⟨(wrap64 (x3_1 + t193)), (by first | rfl | (simp; done) | (simp [*]; done)), H', ⟨by have := HK1.out; omega⟩, ⟨by repeat (first | (with_reducible first | exact HB.out | apply below_alloc | apply pw_below_drewN | apply below_drew1) | exact HB.out)⟩⟩
          · replace c7 := Bool.eq_false_iff.mpr c7
            subst c7
            have H1 : (some false) = some r := by rw [if_neg (show ¬ (false = true) by decide)] at H; exact H
            clear H
            have H := H1
            clear H1
            obtain rfl := Option.some.inj H
            go_wp2_with (first | ((with_reducible refine gate_callee (f := 25) rfl ?_); refine goesL_ (some 14) rfl rfl Try.func25 (by kernel_rfl) rfl #[.string a0, .int .i64 x3_1] rfl (by (try simp only [List.map_toArray, List.map_cons, List.map_nil]); first | done | rfl | (simp only [List.length_drop, List.length_take]; rfl)) ?_; (with_reducible refine (topiaryref11_Rune.calls k1 a0 x3_1 t192 t193 _ A3.out).mono ?_); rintro e w9 ⟨rfl, hb⟩; refine ⟨_, rfl, ?_⟩; have n0_ := Aside0.mk (below_step (by repeat (first | (with_reducible first | exact HB.out | apply below_alloc | apply pw_below_drewN | apply below_drew1) | exact HB.out)) hb); clear HB; have HB := n0_; clear n0_; (try clear hb); (try clear hb2); (try clear hk); (try clear hi)) | ((with_reducible refine gate_callee (f := 27) rfl ?_); refine goesL_ (some 18) rfl rfl Try.func27 (by kernel_rfl) rfl #[.int .i64 t192] rfl (by (try simp only [List.map_toArray, List.map_cons, List.map_nil]); first | done | rfl | (simp only [List.length_drop, List.length_take]; rfl)) ?_; (with_reducible refine (topiaryref11_Allowed.calls t192 false _ A4.out).mono ?_); rintro e w' ⟨rfl, ⟨nd, rfl⟩⟩; refine ⟨_, rfl, ?_⟩))
            go_ret
            exact ⟨by first | rfl | (simp [errW_none, errW_some] <;> rfl) | (simp [*, errW_none, errW_some] <;> rfl), by repeat (first | (with_reducible first | exact HB.out | apply below_alloc | apply pw_below_drewN | apply below_drew1) | exact HB.out)⟩
      · rw [if_neg c2] at H
        have c2b0 : decide (x3_1 < (a0.size : Int)) = false := decide_eq_false c2
        clear c2
        obtain rfl := Option.some.inj H
        go_wp2
        go_ret
        exact ⟨by first | rfl | (simp [errW_none, errW_some] <;> rfl) | (simp [*, errW_none, errW_some] <;> rfl), by repeat (first | (with_reducible first | exact HB.out | apply below_alloc | apply pw_below_drewN | apply below_drew1) | exact HB.out)⟩

end Go.Proofs.Ytekkaoenabjeiaa.Q
