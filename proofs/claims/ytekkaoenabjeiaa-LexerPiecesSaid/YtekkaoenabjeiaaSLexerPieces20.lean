/- Parts of the proof of lexerPieces_holds, kept and merged by a program of mine (wip/tools/slim.py) out of my texts: Q24 -/
import Derived.Test.YtekkaoenabjeiaaSLexerPieces4
import Derived.Test.YtekkaoenabjeiaaSLexerPieces15
import Derived.Test.YtekkaoenabjeiaaSLexerPieces18
section
namespace Go.Proofs.Ytekkaoenabjeiaa.X
end Go.Proofs.Ytekkaoenabjeiaa.X
namespace Go.Proofs.Ytekkaoenabjeiaa.Q
open Go.RowKit Go.Proofs.YtekkaoenabjeiaaW.PrintWords Go.Proofs.YtekkaoenabjeiaaW.PrintLast Go.Proofs.YtekkaoenabjeiaaW.PrintMore
attribute [local go_sem] max2_int min2_int max_two min_two max_three min_three max_four min_four   
open Go.Proofs.Ytekkaoenabjeiaa.X
set_option linter.unusedVariables false
set_option linter.unusedSimpArgs false
attribute [local go_sem high] eqA46
def topiaryref12_begins.f (a0 : ByteArray) (a1 : Int) (a2 : ByteArray) : Option (Bool) := if (wrap64 (a1 + (a2.size : Int))) ≤ (a0.size : Int) then (if 0 ≤ a1 then (if a1 ≤ (wrap64 (a1 + (a2.size : Int))) then (some ((a0.extract (a1 : Int).toNat ((wrap64 (a1 + (a2.size : Int))) : Int).toNat).toList == a2.toList)) else (none)) else (none)) else (some false)
set_option maxHeartbeats 8000000 in
set_option maxRecDepth 100000 in
theorem topiaryref12_begins.calls (a0 : ByteArray) (a1 : Int) (a2 : ByteArray) (r : Bool) (w : World) (h : topiaryref12_begins.f a0 a1 a2 = some r) :
    Calls Try.prog 74 #[.string a0, .int .i64 a1, .string a2] w fun e w' => e = .returned (.bool r) ∧ Drawn0 w w' := by
  have H : (if (wrap64 (a1 + (a2.size : Int))) ≤ (a0.size : Int) then (if 0 ≤ a1 then (if a1 ≤ (wrap64 (a1 + (a2.size : Int))) then (some ((a0.extract (a1 : Int).toNat ((wrap64 (a1 + (a2.size : Int))) : Int).toNat).toList == a2.toList)) else (none)) else (none)) else (some false)) = some r := h
  clear h
  by_cases c4 : (wrap64 (a1 + (a2.size : Int))) ≤ (a0.size : Int)
  · rw [if_pos c4] at H
    have c4b0 : decide ((wrap64 (a1 + (a2.size : Int))) ≤ (a0.size : Int)) = true := decide_eq_true c4
    clear c4
    by_cases c5 : 0 ≤ a1
    · rw [if_pos c5] at H
      have c5b0 := eq_true c5
      have c5b1 : decide (0 ≤ a1) = true := decide_eq_true c5
      clear c5
      by_cases c6 : a1 ≤ (wrap64 (a1 + (a2.size : Int)))
      · rw [if_pos c6] at H
        have c6b0 := eq_true c6
        have c6b1 : decide (a1 ≤ (wrap64 (a1 + (a2.size : Int)))) = true := decide_eq_true c6
        have c7b0 := eq_true (of_decide_eq_true (by first | (with_reducible assumption) | assumption) : (wrap64 (a1 + (a2.size : Int))) ≤ (a0.size : Int))
        obtain rfl := Option.some.inj H
        go_enter Try.func74, Try.ntmps74
        go_wp2
        go_ret
        exact ⟨by first | rfl | (simp; done) | (simp [*]; done), by repeat (first | exact Drawn0.refl _ | apply Drawn0.step)⟩
      · rw [if_neg c6] at H
        exact absurd H (by simp)
    · rw [if_neg c5] at H
      exact absurd H (by simp)
  · rw [if_neg c4] at H
    have c4b0 : decide ((wrap64 (a1 + (a2.size : Int))) ≤ (a0.size : Int)) = false := decide_eq_false c4
    clear c4
    obtain rfl := Option.some.inj H
    go_enter Try.func74, Try.ntmps74
    go_wp2
    go_ret
    exact ⟨by first | rfl | (simp; done) | (simp [*]; done), by repeat (first | exact Drawn0.refl _ | apply Drawn0.step)⟩
def topiaryref12_find.l0 : Nat → ByteArray → ByteArray → Int → Option (Int)
  | 0, _, _, _ => none
  | k + 1, x0, x2, x7 => if (wrap64 (x7 + (x2.size : Int))) ≤ (x0.size : Int) then (if 0 ≤ x7 then (if x7 ≤ (wrap64 (x7 + (x2.size : Int))) then (if (x0.extract (x7 : Int).toNat ((wrap64 (x7 + (x2.size : Int))) : Int).toNat).toList = x2.toList then (some x7) else (topiaryref12_find.l0 k x0 x2 (wrap64 (x7 + 1)))) else (none)) else (none)) else (some (-1))
def topiaryref12_find.f (k : Nat) (a0 : ByteArray) (a1 : Int) (a2 : ByteArray) : Option (Int) := topiaryref12_find.l0 k a0 a2 a1
theorem topiaryref12_find.mono_l : ∀ k, (∀ y0 y1 y2, LeO (topiaryref12_find.l0 k y0 y1 y2) (topiaryref12_find.l0 (k + 1) y0 y1 y2))
  | 0 => fun _ _ _ r h => by simp [topiaryref12_find.l0] at h
  | k + 1 => by
    have ih0 := topiaryref12_find.mono_l k
    · intro y0 y1 y2
      unfold topiaryref12_find.l0
      repeat' first
      | (with_reducible exact ih0 _ _ _)
      | (with_reducible exact LeO.refl _)
      | (with_reducible exact LeO.none _)
      | (with_reducible refine LeO.ite ?_ ?_)
      | (with_reducible refine LeO.bind ?_ (fun _ => ?_))
      | exact ih0 _ _ _
      | exact LeO.none _
      | refine LeO.ite ?_ ?_
      | refine LeO.bind ?_ (fun _ => ?_)
theorem topiaryref12_find.mono : ∀ a0 a1 a2 k, LeO (topiaryref12_find.f k a0 a1 a2) (topiaryref12_find.f (k + 1) a0 a1 a2) := by
  intro a0 a1 a2 k
  have ih0 := topiaryref12_find.mono_l k
  unfold topiaryref12_find.f
  repeat' first
      | (with_reducible exact ih0 _ _ _)
      | (with_reducible exact LeO.refl _)
      | (with_reducible exact LeO.none _)
      | (with_reducible refine LeO.ite ?_ ?_)
      | (with_reducible refine LeO.bind ?_ (fun _ => ?_))
      | exact ih0 _ _ _
      | exact LeO.none _
      | refine LeO.ite ?_ ?_
      | refine LeO.bind ?_ (fun _ => ?_)
set_option maxHeartbeats 8000000 in
set_option maxRecDepth 100000 in
theorem topiaryref12_find.calls (k : Nat) (a0 : ByteArray) (a1 : Int) (a2 : ByteArray) (r : Int) (w : World) (h : topiaryref12_find.f k a0 a1 a2 = some r) :
    Calls Try.prog 75 #[.string a0, .int .i64 a1, .string a2] w fun e w' => e = .returned (.int .i64 r) ∧ Drawn0 w w' := by
  have H : (topiaryref12_find.l0 k a0 a2 a1) = some r := h
  clear h
  have H' := Aside0.mk H
  clear H
  go_enter Try.func75, Try.ntmps75
  go_wp2
  go_loopg [7] k (fun kq v7 w' => ∃ (x7_1 : Int), v7 = .int .i64 x7_1 ∧ Aside0 (topiaryref12_find.l0 kq a0 a2 x7_1 = some r) ∧ Aside0 (kq ≤ k) ∧ Drawn0 w w')
  case atStart => exact ⟨(a1), (by first | rfl | (simp; done) | (simp [*]; done)), H', ⟨Nat.le_refl _⟩, by repeat (first | exact Drawn0.refl _ | apply Drawn0.step)⟩
  case round =>
    clear H'
    try clear p2
    obtain ⟨x7_1, rfl, HA, HK1, ⟨m1, rfl⟩⟩ := hrel
    cases gk with
    | zero => exact absurd HA.out (by simp [topiaryref12_find.l0])
    | succ k1 =>
      have H := HA.out
      clear HA
      simp only [topiaryref12_find.l0] at H
      by_cases c4 : (wrap64 (x7_1 + (a2.size : Int))) ≤ (a0.size : Int)
      · rw [if_pos c4] at H
        have c4b0 : decide ((wrap64 (x7_1 + (a2.size : Int))) ≤ (a0.size : Int)) = true := decide_eq_true c4
        clear c4
        by_cases c5 : 0 ≤ x7_1
        · rw [if_pos c5] at H
          have c5b0 := eq_true c5
          have c5b1 : decide (0 ≤ x7_1) = true := decide_eq_true c5
          clear c5
          by_cases c6 : x7_1 ≤ (wrap64 (x7_1 + (a2.size : Int)))
          · rw [if_pos c6] at H
            have c6b0 := eq_true c6
            have c6b1 : decide (x7_1 ≤ (wrap64 (x7_1 + (a2.size : Int)))) = true := decide_eq_true c6
            have c7b0 := eq_true (of_decide_eq_true (by first | (with_reducible assumption) | assumption) : (wrap64 (x7_1 + (a2.size : Int))) ≤ (a0.size : Int))
            by_cases c8 : (a0.extract (x7_1 : Int).toNat ((wrap64 (x7_1 + (a2.size : Int))) : Int).toNat).toList = a2.toList
            · rw [if_pos c8] at H
              have c8b0 : ((a0.extract (x7_1 : Int).toNat ((wrap64 (x7_1 + (a2.size : Int))) : Int).toNat).toList == a2.toList) = true := beq_iff_eq.mpr c8
              have c8b1 : ((a0.extract (x7_1 : Int).toNat ((wrap64 (x7_1 + (a2.size : Int))) : Int).toNat).toList != a2.toList) = false := bne_eq_false_iff_eq.mpr c8
              clear c8
              obtain rfl := Option.some.inj H
              go_wp2
              go_ret
              exact ⟨by first | rfl | (simp; done) | (simp [*]; done), by repeat (first | exact Drawn0.refl _ | apply Drawn0.step)⟩
            · rw [if_neg c8] at H
              have c8b0 : ((a0.extract (x7_1 : Int).toNat ((wrap64 (x7_1 + (a2.size : Int))) : Int).toNat).toList == a2.toList) = false := beq_eq_false_iff_ne.mpr c8
              have c8b1 : ((a0.extract (x7_1 : Int).toNat ((wrap64 (x7_1 + (a2.size : Int))) : Int).toNat).toList != a2.toList) = true := bne_iff_ne.mpr c8
              have H' := Aside0.mk H
              clear H
              go_wp2
              go_roundg k1
              case measure => have := HK1.out; omega
              case rel => exact ⟨(wrap64 (x7_1 + 1)), (by first | rfl | (simp; done) | (simp [*]; done)), H', ⟨by have := HK1.out; omega⟩, by repeat (first | exact Drawn0.refl _ | apply Drawn0.step)⟩
          · rw [if_neg c6] at H
            exact absurd H (by simp)
        · rw [if_neg c5] at H
          exact absurd H (by simp)
      · rw [if_neg c4] at H
        have c4b0 : decide ((wrap64 (x7_1 + (a2.size : Int))) ≤ (a0.size : Int)) = false := decide_eq_false c4
        clear c4
        obtain rfl := Option.some.inj H
        go_wp2
        go_ret
        exact ⟨by first | rfl | (simp; done) | (simp [*]; done), by repeat (first | exact Drawn0.refl _ | apply Drawn0.step)⟩
def topiaryref12_decoded.l0 : Nat → ByteArray → ByteArray → Int → Option (ByteArray × Bool)
  | 0, _, _, _ => none
  | k + 1, x0, x4, x5 => if x5 < (x0.size : Int) then (if 0 ≤ x5 then (if (bt x0 x5) = 38 then ((topiaryref11_Entity.f x0 x5).bind fun bt243 => (if bt243.2 = 0 then (some ((⟨#[]⟩ : ByteArray), false)) else (if x4.size + bt243.1.size ≤ 9223372036854775807 then (topiaryref12_decoded.l0 k x0 (x4 ++ bt243.1) (wrap64 (x5 + bt243.2))) else (none)))) else (if x5 ≤ (wrap64 (x5 + 1)) then (if (wrap64 (x5 + 1)) ≤ (x0.size : Int) then (if x4.size + (x0.extract (x5 : Int).toNat ((wrap64 (x5 + 1)) : Int).toNat).size ≤ 9223372036854775807 then (topiaryref12_decoded.l0 k x0 (x4 ++ (x0.extract (x5 : Int).toNat ((wrap64 (x5 + 1)) : Int).toNat)) (wrap64 (x5 + 1))) else (none)) else (none)) else (none))) else (none)) else (some (x4, true))
def topiaryref12_decoded.f (k : Nat) (a0 : ByteArray) : Option (ByteArray × Bool) := topiaryref12_decoded.l0 k a0 (⟨#[]⟩ : ByteArray) 0
theorem topiaryref12_decoded.mono_l : ∀ k, (∀ y0 y1 y2, LeO (topiaryref12_decoded.l0 k y0 y1 y2) (topiaryref12_decoded.l0 (k + 1) y0 y1 y2))
  | 0 => fun _ _ _ r h => by simp [topiaryref12_decoded.l0] at h
  | k + 1 => by
    have ih0 := topiaryref12_decoded.mono_l k
    · intro y0 y1 y2
      unfold topiaryref12_decoded.l0
      repeat' first
      | (with_reducible exact ih0 _ _ _)
      | (with_reducible exact LeO.refl _)
      | (with_reducible exact LeO.none _)
      | (with_reducible refine LeO.ite ?_ ?_)
      | (with_reducible refine LeO.bind ?_ (fun _ => ?_))
      | exact ih0 _ _ _
      | exact LeO.none _
      | refine LeO.ite ?_ ?_
      | refine LeO.bind ?_ (fun _ => ?_)
theorem topiaryref12_decoded.mono : ∀ a0 k, LeO (topiaryref12_decoded.f k a0) (topiaryref12_decoded.f (k + 1) a0) := by
  intro a0 k
  have ih0 := topiaryref12_decoded.mono_l k
  unfold topiaryref12_decoded.f
  repeat' first
      | (with_reducible exact ih0 _ _ _)
      | (with_reducible exact LeO.refl _)
      | (with_reducible exact LeO.none _)
      | (with_reducible refine LeO.ite ?_ ?_)
      | (with_reducible refine LeO.bind ?_ (fun _ => ?_))
      | exact ih0 _ _ _
      | exact LeO.none _
      | refine LeO.ite ?_ ?_
      | refine LeO.bind ?_ (fun _ => ?_)
set_option maxHeartbeats 8000000 in
set_option maxRecDepth 100000 in
theorem topiaryref12_decoded.calls (k : Nat) (a0 : ByteArray) (r1 : ByteArray) (r2 : Bool) (w : World) (h : topiaryref12_decoded.f k a0 = some (r1, r2)) :
    Calls Try.prog 77 #[.string a0] w fun e w' => e = .returned (.tuple #[.string r1, .bool r2]) ∧ Below w.heap.size w w' := by
  have HB := Aside0.mk (Below.refl w.heap.size w)
  have H : (topiaryref12_decoded.l0 k a0 (⟨#[]⟩ : ByteArray) 0) = some (r1, r2) := h
  clear h
  have H' := Aside0.mk H
  clear H
  go_enter Try.func77, Try.ntmps77
  go_wp2
  go_loopg [4, 5] k (fun kq v4 v5 w' => ∃ (x4_1 : ByteArray) (x5_1 : Int), v4 = .string x4_1 ∧ v5 = .int .i64 x5_1 ∧ Aside0 (topiaryref12_decoded.l0 kq a0 x4_1 x5_1 = some (r1, r2)) ∧ Aside0 (kq ≤ k) ∧ Aside0 (Below w.heap.size w w'))
  case atStart => exact ⟨((⟨#[]⟩ : ByteArray)), (0), (by first | rfl | (simp; done) | (simp [*]; done)), (by first | rfl | (simp; done) | (simp [*]; done)), H', ⟨Nat.le_refl _⟩, ⟨by repeat (first | (with_reducible first | exact HB.out | apply below_alloc | apply pw_below_drewN | apply below_drew1) | exact HB.out)⟩⟩
  case round =>
    clear H'
    obtain ⟨x4_1, x5_1, rfl, rfl, HA, HK1, HB⟩ := hrel
    cases gk with
    | zero => exact absurd HA.out (by simp [topiaryref12_decoded.l0])
    | succ k1 =>
      have H := HA.out
      clear HA
      simp only [topiaryref12_decoded.l0] at H
      by_cases c2 : x5_1 < (a0.size : Int)
      · rw [if_pos c2] at H
        have c2b0 : decide (x5_1 < (a0.size : Int)) = true := decide_eq_true c2
        clear c2
        by_cases c3 : 0 ≤ x5_1
        · rw [if_pos c3] at H
          have c3b0 : decide (0 ≤ x5_1) = true := decide_eq_true c3
          clear c3
          by_cases c5 : (bt a0 x5_1) = 38
          · rw [if_pos c5] at H
            have c5b0 : ((bt a0 x5_1) == 38) = true := beq_iff_eq.mpr c5
            have c5b1 : ((bt a0 x5_1) != 38) = false := bne_eq_false_iff_eq.mpr c5
            clear c5
            replace H := Option.bind_eq_some_iff.mp H
            obtain ⟨⟨t243, t244⟩, A60, H⟩ := H
            replace H : (if t244 = 0 then (some ((⟨#[]⟩ : ByteArray), false)) else (if x4_1.size + t243.size ≤ 9223372036854775807 then (topiaryref12_decoded.l0 k1 a0 (x4_1 ++ t243) (wrap64 (x5_1 + t244))) else (none))) = some (r1, r2) := H
            have A6 := Aside0.mk A60
            clear A60
            by_cases c7 : t244 = 0
            · rw [if_pos c7] at H
              have c7b0 : (t244 == 0) = true := beq_iff_eq.mpr c7
              have c7b1 : (t244 != 0) = false := bne_eq_false_iff_eq.mpr c7
              clear c7
              simp only [Option.some.injEq, Prod.mk.injEq] at H
              obtain ⟨rfl, rfl⟩ := H
              have p4 : 0 ≤ (x5_1 : Int) := of_decide_eq_true (by first | (with_reducible assumption) | assumption)
              have q4 : x5_1 < (a0.size : Int) := of_decide_eq_true (by first | (with_reducible assumption) | assumption)
              have hx4 := bt_at a0 x5_1
              replace p4 := eq_true p4
              replace q4 := eq_true q4
              go_wp2_with (first | ((with_reducible refine gate_callee (f := 19) rfl ?_); refine goesL_ (some 28) rfl rfl Try.func19 (by kernel_rfl) rfl #[.string a0, .int .i64 x5_1] rfl (by (try simp only [List.map_toArray, List.map_cons, List.map_nil]); first | done | rfl | (simp only [List.length_drop, List.length_take]; rfl)) ?_; (with_reducible refine (topiaryref11_Entity.calls a0 x5_1 t243 t244 _ A6.out).mono ?_); rintro e w8 ⟨rfl, hb⟩; refine ⟨_, rfl, ?_⟩; have n0_ := Aside0.mk (below_step (by repeat (first | (with_reducible first | exact HB.out | apply below_alloc | apply pw_below_drewN | apply below_drew1) | exact HB.out)) hb); clear HB; have HB := n0_; clear n0_; (try clear hb); (try clear hb2); (try clear hk); (try clear hi)))
              go_ret2
              exact ⟨by first | rfl | (simp [errW_none, errW_some] <;> rfl) | (simp [*, errW_none, errW_some] <;> rfl), by repeat (first | (with_reducible first | exact HB.out | apply below_alloc | apply pw_below_drewN | apply below_drew1) | exact HB.out)⟩
            · rw [if_neg c7] at H
              have c7b0 : (t244 == 0) = false := beq_eq_false_iff_ne.mpr c7
              have c7b1 : (t244 != 0) = true := bne_iff_ne.mpr c7
              by_cases c9 : x4_1.size + t243.size ≤ 9223372036854775807
              · rw [if_pos c9] at H
                have c9b0 := eq_true c9
                have c9b1 : decide (x4_1.size + t243.size ≤ 9223372036854775807) = true := decide_eq_true c9
                try have c9b2 : (9223372036854775807 < x4_1.size + t243.size) = False := eq_false (Nat.not_lt.2 c9)
                have H' := Aside0.mk H
                clear H
                have p4 : 0 ≤ (x5_1 : Int) := of_decide_eq_true (by first | (with_reducible assumption) | assumption)
                have q4 : x5_1 < (a0.size : Int) := of_decide_eq_true (by first | (with_reducible assumption) | assumption)
                have hx4 := bt_at a0 x5_1
                replace p4 := eq_true p4
                replace q4 := eq_true q4
                go_wp2_with (first | ((with_reducible refine gate_callee (f := 19) rfl ?_); refine goesL_ (some 28) rfl rfl Try.func19 (by kernel_rfl) rfl #[.string a0, .int .i64 x5_1] rfl (by (try simp only [List.map_toArray, List.map_cons, List.map_nil]); first | done | rfl | (simp only [List.length_drop, List.length_take]; rfl)) ?_; (with_reducible refine (topiaryref11_Entity.calls a0 x5_1 t243 t244 _ A6.out).mono ?_); rintro e w10 ⟨rfl, hb⟩; refine ⟨_, rfl, ?_⟩; have n0_ := Aside0.mk (below_step (by repeat (first | (with_reducible first | exact HB.out | apply below_alloc | apply pw_below_drewN | apply below_drew1) | exact HB.out)) hb); clear HB; have HB := n0_; clear n0_; (try clear hb); (try clear hb2); (try clear hk); (try clear hi)))
                go_roundg k1
                case measure => have := HK1.out; omega
                case rel => exact ⟨(x4_1 ++ t243), (wrap64 (x5_1 + t244)), (by first | rfl | (simp; done) | (simp [*]; done)), (by first | rfl | (simp; done) | (simp [*]; done)), H', ⟨by have := HK1.out; omega⟩, ⟨by repeat (first | (with_reducible first | exact HB.out | apply below_alloc | apply pw_below_drewN | apply below_drew1) | exact HB.out)⟩⟩
              · rw [if_neg c9] at H
                exact absurd H (by simp)
          · rw [if_neg c5] at H
            have c5b0 : ((bt a0 x5_1) == 38) = false := beq_eq_false_iff_ne.mpr c5
            have c5b1 : ((bt a0 x5_1) != 38) = true := bne_iff_ne.mpr c5
            have c11b0 := eq_true (of_decide_eq_true (by first | (with_reducible assumption) | assumption) : 0 ≤ x5_1)
            by_cases c12 : x5_1 ≤ (wrap64 (x5_1 + 1))
            · rw [if_pos c12] at H
              have c12b0 := eq_true c12
              have c12b1 : decide (x5_1 ≤ (wrap64 (x5_1 + 1))) = true := decide_eq_true c12
              by_cases c13 : (wrap64 (x5_1 + 1)) ≤ (a0.size : Int)
              · rw [if_pos c13] at H
                have c13b0 := eq_true c13
                have c13b1 : decide ((wrap64 (x5_1 + 1)) ≤ (a0.size : Int)) = true := decide_eq_true c13
                by_cases c14 : x4_1.size + (a0.extract (x5_1 : Int).toNat ((wrap64 (x5_1 + 1)) : Int).toNat).size ≤ 9223372036854775807
                · rw [if_pos c14] at H
                  have c14b0 := eq_true c14
                  have c14b1 : decide (x4_1.size + (a0.extract (x5_1 : Int).toNat ((wrap64 (x5_1 + 1)) : Int).toNat).size ≤ 9223372036854775807) = true := decide_eq_true c14
                  try have c14b2 : (9223372036854775807 < x4_1.size + (a0.extract (x5_1 : Int).toNat ((wrap64 (x5_1 + 1)) : Int).toNat).size) = False := eq_false (Nat.not_lt.2 c14)
                  have H' := Aside0.mk H
                  clear H
                  have p4 : 0 ≤ (x5_1 : Int) := of_decide_eq_true (by first | (with_reducible assumption) | assumption)
                  have q4 : x5_1 < (a0.size : Int) := of_decide_eq_true (by first | (with_reducible assumption) | assumption)
                  have hx4 := bt_at a0 x5_1
                  replace p4 := eq_true p4
                  replace q4 := eq_true q4
                  go_wp2
                  go_roundg k1
                  case measure => have := HK1.out; omega
                  case rel => exact ⟨(x4_1 ++ (a0.extract (x5_1 : Int).toNat ((wrap64 (x5_1 + 1)) : Int).toNat)), (wrap64 (x5_1 + 1)), (by first | rfl | (simp; done) | (simp [*]; done)), (by first | rfl | (simp; done) | (simp [*]; done)), H', ⟨by have := HK1.out; omega⟩, ⟨by repeat (first | (with_reducible first | exact HB.out | apply below_alloc | apply pw_below_drewN | apply below_drew1) | exact HB.out)⟩⟩
                · rw [if_neg c14] at H
                  exact absurd H (by simp)
              · rw [if_neg c13] at H
                exact absurd H (by simp)
            · rw [if_neg c12] at H
              exact absurd H (by simp)
        · rw [if_neg c3] at H
          exact absurd H (by simp)
      · rw [if_neg c2] at H
        have c2b0 : decide (x5_1 < (a0.size : Int)) = false := decide_eq_false c2
        clear c2
        simp only [Option.some.injEq, Prod.mk.injEq] at H
        obtain ⟨rfl, rfl⟩ := H
        go_wp2
        go_ret2
        exact ⟨by first | rfl | (simp [errW_none, errW_some] <;> rfl) | (simp [*, errW_none, errW_some] <;> rfl), by repeat (first | (with_reducible first | exact HB.out | apply below_alloc | apply pw_below_drewN | apply below_drew1) | exact HB.out)⟩
mutual
def topiaryref12_attr.j0 : Nat → ByteArray → Int → Int → Bool → Option (Int × Int × Int × ByteArray × ByteArray × Bool)
  | 0, _, _, _, _ => none
  | k + 1, x0, x6, x7, x27 => if x27 = true then (some (0, 0, 0, (⟨#[]⟩ : ByteArray), (⟨#[]⟩ : ByteArray), false)) else ((topiaryref11_Skip.f k x0 x7).bind fun t248 => ((topiaryref12_begins.f x0 t248 (⟨#[61]⟩ : ByteArray)).bind fun t249 => (if t249 = true then ((topiaryref11_Skip.f k x0 (wrap64 (t248 + 1))).bind fun t250 => ((topiaryref12_begins.f x0 t250 (⟨#[34]⟩ : ByteArray)).bind fun t251 => (if t251 = true then (topiaryref12_attr.j1 k x0 x6 x7 t250 false) else ((topiaryref12_begins.f x0 t250 (⟨#[39]⟩ : ByteArray)).bind fun t252 => (topiaryref12_attr.j1 k x0 x6 x7 t250 (!t252)))))) else (some (0, 0, 0, (⟨#[]⟩ : ByteArray), (⟨#[]⟩ : ByteArray), false)))))
def topiaryref12_attr.j1 : Nat → ByteArray → Int → Int → Int → Bool → Option (Int × Int × Int × ByteArray × ByteArray × Bool)
  | 0, _, _, _, _, _ => none
  | k + 1, x0, x6, x7, x9, x50 => if x50 = true then (some (0, 0, 0, (⟨#[]⟩ : ByteArray), (⟨#[]⟩ : ByteArray), false)) else (if 0 ≤ x9 then (if x9 ≤ (wrap64 (x9 + 1)) then (if (wrap64 (x9 + 1)) ≤ (x0.size : Int) then ((topiaryref12_find.f k x0 (wrap64 (x9 + 1)) (x0.extract (x9 : Int).toNat ((wrap64 (x9 + 1)) : Int).toNat)).bind fun t253 => (if t253 < 0 then (some (0, 0, 0, (⟨#[]⟩ : ByteArray), (⟨#[]⟩ : ByteArray), false)) else (if 0 ≤ (wrap64 (x9 + 1)) then (if (wrap64 (x9 + 1)) ≤ t253 then (if t253 ≤ (x0.size : Int) then ((topiaryref12_find.f k (x0.extract ((wrap64 (x9 + 1)) : Int).toNat (t253 : Int).toNat) 0 (⟨#[60]⟩ : ByteArray)).bind fun t254 => (if t254 ≥ 0 then (some (0, 0, 0, (⟨#[]⟩ : ByteArray), (⟨#[]⟩ : ByteArray), false)) else ((topiaryref12_decoded.f k (x0.extract ((wrap64 (x9 + 1)) : Int).toNat (t253 : Int).toNat)).bind fun bt255 => (if 0 ≤ x6 then (if x6 ≤ x7 then (if x7 ≤ (x0.size : Int) then (some (2, x6, wrap64 (t253 + 1), x0.extract (x6 : Int).toNat (x7 : Int).toNat, bt255.1, bt255.2)) else (none)) else (none)) else (none))))) else (none)) else (none)) else (none)))) else (none)) else (none)) else (none))
end
def topiaryref12_attr.f (k : Nat) (a0 : ByteArray) (a1 : Int) : Option (Int × Int × Int × ByteArray × ByteArray × Bool) := (topiaryref11_Skip.f k a0 a1).bind fun t246 => ((topiaryref11_NameEnd.f k a0 t246).bind fun t247 => (if t246 = a1 then (topiaryref12_attr.j0 k a0 t246 t247 true) else (topiaryref12_attr.j0 k a0 t246 t247 (t247 == t246))))
theorem topiaryref12_attr.mono_l : ∀ k, (∀ y0 y1 y2 y3, LeO (topiaryref12_attr.j0 k y0 y1 y2 y3) (topiaryref12_attr.j0 (k + 1) y0 y1 y2 y3)) ∧ (∀ y0 y1 y2 y3 y4, LeO (topiaryref12_attr.j1 k y0 y1 y2 y3 y4) (topiaryref12_attr.j1 (k + 1) y0 y1 y2 y3 y4))
  | 0 => ⟨fun _ _ _ _ r h => by simp [topiaryref12_attr.j0] at h, fun _ _ _ _ _ r h => by simp [topiaryref12_attr.j1] at h⟩
  | k + 1 => by
    obtain ⟨ih0, ih1⟩ := topiaryref12_attr.mono_l k
    refine ⟨?_, ?_⟩
    · intro y0 y1 y2 y3
      unfold topiaryref12_attr.j0
      repeat' first
      | (with_reducible exact ih0 _ _ _ _)
      | (with_reducible exact ih1 _ _ _ _ _)
      | (with_reducible exact topiaryref11_NameEnd.mono _ _ _)
      | (with_reducible exact topiaryref11_Skip.mono _ _ _)
      | (with_reducible exact topiaryref12_decoded.mono _ _)
      | (with_reducible exact topiaryref12_find.mono _ _ _ _)
      | (with_reducible exact LeO.refl _)
      | (with_reducible exact LeO.none _)
      | (with_reducible refine LeO.ite ?_ ?_)
      | (with_reducible refine LeO.bind ?_ (fun _ => ?_))
      | exact ih0 _ _ _ _
      | exact ih1 _ _ _ _ _
      | exact topiaryref11_NameEnd.mono _ _ _
      | exact topiaryref11_Skip.mono _ _ _
      | exact topiaryref12_decoded.mono _ _
      | exact topiaryref12_find.mono _ _ _ _
      | exact LeO.none _
      | refine LeO.ite ?_ ?_
      | refine LeO.bind ?_ (fun _ => ?_)
    · intro y0 y1 y2 y3 y4
      unfold topiaryref12_attr.j1
      repeat' first
      | (with_reducible exact ih0 _ _ _ _)
      | (with_reducible exact ih1 _ _ _ _ _)
      | (with_reducible exact topiaryref11_NameEnd.mono _ _ _)
      | (with_reducible exact topiaryref11_Skip.mono _ _ _)
      | (with_reducible exact topiaryref12_decoded.mono _ _)
      | (with_reducible exact topiaryref12_find.mono _ _ _ _)
      | (with_reducible exact LeO.refl _)
      | (with_reducible exact LeO.none _)
      | (with_reducible refine LeO.ite ?_ ?_)
      | (with_reducible refine LeO.bind ?_ (fun _ => ?_))
      | exact ih0 _ _ _ _
      | exact ih1 _ _ _ _ _
      | exact topiaryref11_NameEnd.mono _ _ _
      | exact topiaryref11_Skip.mono _ _ _
      | exact topiaryref12_decoded.mono _ _
      | exact topiaryref12_find.mono _ _ _ _
      | exact LeO.none _
      | refine LeO.ite ?_ ?_
      | refine LeO.bind ?_ (fun _ => ?_)
theorem topiaryref12_attr.mono : ∀ a0 a1 k, LeO (topiaryref12_attr.f k a0 a1) (topiaryref12_attr.f (k + 1) a0 a1) := by
  intro a0 a1 k
  obtain ⟨ih0, ih1⟩ := topiaryref12_attr.mono_l k
  unfold topiaryref12_attr.f
  repeat' first
      | (with_reducible exact ih0 _ _ _ _)
      | (with_reducible exact ih1 _ _ _ _ _)
      | (with_reducible exact topiaryref11_NameEnd.mono _ _ _)
      | (with_reducible exact topiaryref11_Skip.mono _ _ _)
      | (with_reducible exact topiaryref12_decoded.mono _ _)
      | (with_reducible exact topiaryref12_find.mono _ _ _ _)
      | (with_reducible exact LeO.refl _)
      | (with_reducible exact LeO.none _)
      | (with_reducible refine LeO.ite ?_ ?_)
      | (with_reducible refine LeO.bind ?_ (fun _ => ?_))
      | exact ih0 _ _ _ _
      | exact ih1 _ _ _ _ _
      | exact topiaryref11_NameEnd.mono _ _ _
      | exact topiaryref11_Skip.mono _ _ _
      | exact topiaryref12_decoded.mono _ _
      | exact topiaryref12_find.mono _ _ _ _
      | exact LeO.none _
      | refine LeO.ite ?_ ?_
      | refine LeO.bind ?_ (fun _ => ?_)
set_option maxHeartbeats 8000000 in
set_option maxRecDepth 100000 in
theorem topiaryref12_attr.calls (k : Nat) (a0 : ByteArray) (a1 : Int) (r1 : Int) (r2 : Int) (r3 : Int) (r4 : ByteArray) (r5 : ByteArray) (r6 : Bool) (w : World) (h : topiaryref12_attr.f k a0 a1 = some (r1, r2, r3, r4, r5, r6)) :
    Calls Try.prog 89 #[.string a0, .int .i64 a1] w fun e w' => e = .returned (.tuple #[.agg #[.int .i64 r1, .int .i64 r2, .int .i64 r3, .string r4, .string r5], .bool r6]) ∧ Below w.heap.size w w' := by
  have hu46 := Try.underlying46
  have HB := Aside0.mk (Below.refl w.heap.size w)
  have H : ((topiaryref11_Skip.f k a0 a1).bind fun t246 => ((topiaryref11_NameEnd.f k a0 t246).bind fun t247 => (if t246 = a1 then (topiaryref12_attr.j0 k a0 t246 t247 true) else (topiaryref12_attr.j0 k a0 t246 t247 (t247 == t246))))) = some (r1, r2, r3, r4, r5, r6) := h
  clear h
  replace H := Option.bind_eq_some_iff.mp H
  obtain ⟨t246, A30, H⟩ := H
  replace H : ((topiaryref11_NameEnd.f k a0 t246).bind fun t247 => (if t246 = a1 then (topiaryref12_attr.j0 k a0 t246 t247 true) else (topiaryref12_attr.j0 k a0 t246 t247 (t247 == t246)))) = some (r1, r2, r3, r4, r5, r6) := H
  have A3 := Aside0.mk A30
  clear A30
  replace H := Option.bind_eq_some_iff.mp H
  obtain ⟨t247, A40, H⟩ := H
  replace H : (if t246 = a1 then (topiaryref12_attr.j0 k a0 t246 t247 true) else (topiaryref12_attr.j0 k a0 t246 t247 (t247 == t246))) = some (r1, r2, r3, r4, r5, r6) := H
  have A4 := Aside0.mk A40
  clear A40
  have HC5 := Aside0.mk H
  clear H
  go_enter Try.func89, Try.ntmps89
  go_upto_region 3 with (first | ((with_reducible refine gate_dst (N := 4) rfl ?_); refine box_event ?hg (N := 4) ?hd (cs := #[.int .i64 0, .int .i64 0, .int .i64 0, .string (⟨#[]⟩ : ByteArray), .string (⟨#[]⟩ : ByteArray)]) (t := 46) ?hr ?_; (case hd => rfl); (case hg => rfl); (case hr => first | (go_simp; done) | (go_simp; rfl)); intro gb245 hg w6 hbox hb; have n0_ := Aside0.mk (below_step (by repeat (first | (with_reducible first | exact HB.out | apply below_alloc | apply pw_below_drewN | apply below_drew1) | exact HB.out)) hb); have n1_ := Aside0.mk (hbox); have n2_ := Aside0.mk ((by rw [hg]; exact (below_size (by repeat (first | (with_reducible first | exact HB.out | apply below_alloc | apply pw_below_drewN | apply below_drew1) | exact HB.out))) : w.heap.size ≤ gb245)); have n3_ := Aside0.mk ((by rw [hg]; exact (below_size (by repeat (first | (with_reducible first | exact HB.out | apply below_alloc | apply pw_below_drewN | apply below_drew1) | exact HB.out))) : w.heap.size ≤ gb245)); clear HB; have HB := n0_; have BK245 := n1_; have GW245 := n2_; have GE245 := n3_; clear n0_ n1_ n2_ n3_; clear hb hbox hg) | ((with_reducible refine gate_callee (f := 33) rfl ?_); refine goesL_ (some 16) rfl rfl Try.func33 (by kernel_rfl) rfl #[.string a0, .int .i64 a1] rfl (by (try simp only [List.map_toArray, List.map_cons, List.map_nil]); first | done | rfl | (simp only [List.length_drop, List.length_take]; rfl)) ?_; (with_reducible refine (topiaryref11_Skip.calls k a0 a1 t246 _ A3.out).mono ?_); rintro e w' ⟨rfl, ⟨nd, rfl⟩⟩; refine ⟨_, rfl, ?_⟩) | ((with_reducible refine gate_callee (f := 30) rfl ?_); refine goesL_ (some 19) rfl rfl Try.func30 (by kernel_rfl) rfl #[.string a0, .int .i64 t246] rfl (by (try simp only [List.map_toArray, List.map_cons, List.map_nil]); first | done | rfl | (simp only [List.length_drop, List.length_take]; rfl)) ?_; (with_reducible refine (topiaryref11_NameEnd.calls k a0 t246 t247 _ A4.out).mono ?_); rintro e w' ⟨rfl, ⟨nd, rfl⟩⟩; refine ⟨_, rfl, ?_⟩))
  (try simp only [Act.put, List.setIfInBounds_toArray, List.set_cons_zero, List.set_cons_succ])
  go_cut [27] (fun v27 wc => ∃ (kq : Nat) (x27_4 : Bool), v27 = .bool x27_4 ∧ Aside0 (topiaryref12_attr.j0 kq a0 t246 t247 x27_4 = some (r1, r2, r3, r4, r5, r6)) ∧ Aside0 (kq ≤ k) ∧ Aside0 (wc.heap[gb245]? = some (.cells #[.int .i64 0, .int .i64 0, .int .i64 0, .string (⟨#[]⟩ : ByteArray), .string (⟨#[]⟩ : ByteArray)] 46 (0, 0))) ∧ Aside0 (Below w.heap.size w wc))
  case first =>
    have H := HC5.out
    clear HC5
    by_cases c7 : t246 = a1
    · rw [if_pos c7] at H
      have c7b0 : (t246 == a1) = true := beq_iff_eq.mpr c7
      have c7b1 : (t246 != a1) = false := bne_eq_false_iff_eq.mpr c7
      clear c7
      (first | rw [c7b0] | (simp only [i64_w, i32_w]; rw [c7b0]) | skip)
      have H' := Aside0.mk H
      clear H
      go_wp2
      go_meet
      case rel => exact ⟨_, (true), (by first | rfl | (simp; done) | (simp [*]; done)), H', ⟨by first | omega | exact Nat.le_refl _⟩, ⟨by (with_reducible repeat (first | refine blk_drewN ?_ _ | refine blk_drew ?_ | refine blk_alloc ?_ _)); exact BK245.out⟩, ⟨by repeat (first | (with_reducible first | exact HB.out | apply below_alloc | apply pw_below_drewN | apply below_drew1 | refine below_set ?_ GE245.out) | exact HB.out)⟩⟩
    · rw [if_neg c7] at H
      have c7b0 : (t246 == a1) = false := beq_eq_false_iff_ne.mpr c7
      have c7b1 : (t246 != a1) = true := bne_iff_ne.mpr c7
      (first | rw [c7b0] | (simp only [i64_w, i32_w]; rw [c7b0]) | skip)
      have H' := Aside0.mk H
      clear H
      go_wp2
      go_meet
      case rel => exact ⟨_, ((t247 == t246)), (by first | rfl | (simp; done) | (simp [*]; done)), H', ⟨by first | omega | exact Nat.le_refl _⟩, ⟨by (with_reducible repeat (first | refine blk_drewN ?_ _ | refine blk_drew ?_ | refine blk_alloc ?_ _)); exact BK245.out⟩, ⟨by repeat (first | (with_reducible first | exact HB.out | apply below_alloc | apply pw_below_drewN | apply below_drew1 | refine below_set ?_ GE245.out) | exact HB.out)⟩⟩
  case rest =>
    clear HC5
    try clear p2
    try clear c3
    try clear c7
    try clear c7b0
    try clear c7b1
    obtain ⟨kq, x27_4, rfl, HA, HJ4, BK245, HB⟩ := hcut
    cases kq with
    | zero => exact absurd HA.out (by simp [topiaryref12_attr.j0])
    | succ kj4 =>
      have H := HA.out
      clear HA
      simp only [topiaryref12_attr.j0] at H
      by_cases c8 : x27_4 = true
      · subst c8
        have H1 : (some (0, 0, 0, (⟨#[]⟩ : ByteArray), (⟨#[]⟩ : ByteArray), false)) = some (r1, r2, r3, r4, r5, r6) := by rw [if_pos rfl] at H; exact H
        clear H
        have H := H1
        clear H1
        simp only [Option.some.injEq, Prod.mk.injEq] at H
        obtain ⟨rfl, rfl, rfl, rfl, rfl, rfl⟩ := H
        have hcz9_0 : wc.cell? ⟨gb245, 0, none⟩ = some (.int .i64 0) := (blk_cell BK245.out 0).trans rfl
        have hcz9_1 : wc.cell? ⟨gb245, 1, none⟩ = some (.int .i64 0) := (blk_cell BK245.out 1).trans rfl
        have hcz9_2 : wc.cell? ⟨gb245, 2, none⟩ = some (.int .i64 0) := (blk_cell BK245.out 2).trans rfl
        have hcz9_3 : wc.cell? ⟨gb245, 3, none⟩ = some (.string (⟨#[]⟩ : ByteArray)) := (blk_cell BK245.out 3).trans rfl
        have hcz9_4 : wc.cell? ⟨gb245, 4, none⟩ = some (.string (⟨#[]⟩ : ByteArray)) := (blk_cell BK245.out 4).trans rfl
        have hfz9_0 := blk_frozen BK245.out 0
        have hfz9_1 := blk_frozen BK245.out 1
        have hfz9_2 := blk_frozen BK245.out 2
        have hfz9_3 := blk_frozen BK245.out 3
        have hfz9_4 := blk_frozen BK245.out 4
        go_wp2
        refine bodyPost_ret (results_ct rfl _ _ gb245 46 #[.int .i64 0, .int .i64 0, .int .i64 0, .string (⟨#[]⟩ : ByteArray), .string (⟨#[]⟩ : ByteArray)] (0, 0) _ rfl (by (with_reducible repeat (first | refine blk_drewN ?_ _ | refine blk_drew ?_ | refine blk_alloc ?_ _)); refine blk_put (cs := #[.int .i64 0, .int .i64 0, .int .i64 0, .string (⟨#[]⟩ : ByteArray), .string (⟨#[]⟩ : ByteArray)]) ?_ 4 _ rfl; (with_reducible repeat (first | refine blk_drewN ?_ _ | refine blk_drew ?_ | refine blk_alloc ?_ _)); refine blk_put (cs := #[.int .i64 0, .int .i64 0, .int .i64 0, .string (⟨#[]⟩ : ByteArray), .string (⟨#[]⟩ : ByteArray)]) ?_ 3 _ rfl; (with_reducible repeat (first | refine blk_drewN ?_ _ | refine blk_drew ?_ | refine blk_alloc ?_ _)); refine blk_put (cs := #[.int .i64 0, .int .i64 0, .int .i64 0, .string (⟨#[]⟩ : ByteArray), .string (⟨#[]⟩ : ByteArray)]) ?_ 2 _ rfl; (with_reducible repeat (first | refine blk_drewN ?_ _ | refine blk_drew ?_ | refine blk_alloc ?_ _)); refine blk_put (cs := #[.int .i64 0, .int .i64 0, .int .i64 0, .string (⟨#[]⟩ : ByteArray), .string (⟨#[]⟩ : ByteArray)]) ?_ 1 _ rfl; (with_reducible repeat (first | refine blk_drewN ?_ _ | refine blk_drew ?_ | refine blk_alloc ?_ _)); refine blk_put (cs := #[.int .i64 0, .int .i64 0, .int .i64 0, .string (⟨#[]⟩ : ByteArray), .string (⟨#[]⟩ : ByteArray)]) ?_ 0 _ rfl; (with_reducible repeat (first | refine blk_drewN ?_ _ | refine blk_drew ?_ | refine blk_alloc ?_ _)); exact BK245.out) Try.underlying46 rfl (by kernel_rfl)) rfl ?_
        exact ⟨by first | rfl | (simp [errW_none, errW_some] <;> rfl) | (simp [*, errW_none, errW_some] <;> rfl), by repeat (first | (with_reducible first | exact HB.out | apply below_alloc | apply pw_below_drewN | apply below_drew1 | refine below_set ?_ GE245.out) | exact HB.out)⟩
      · replace c8 := Bool.eq_false_iff.mpr c8
        subst c8
        have H1 : ((topiaryref11_Skip.f kj4 a0 t247).bind fun t248 => ((topiaryref12_begins.f a0 t248 (⟨#[61]⟩ : ByteArray)).bind fun t249 => (if t249 = true then ((topiaryref11_Skip.f kj4 a0 (wrap64 (t248 + 1))).bind fun t250 => ((topiaryref12_begins.f a0 t250 (⟨#[34]⟩ : ByteArray)).bind fun t251 => (if t251 = true then (topiaryref12_attr.j1 kj4 a0 t246 t247 t250 false) else ((topiaryref12_begins.f a0 t250 (⟨#[39]⟩ : ByteArray)).bind fun t252 => (topiaryref12_attr.j1 kj4 a0 t246 t247 t250 (!t252)))))) else (some (0, 0, 0, (⟨#[]⟩ : ByteArray), (⟨#[]⟩ : ByteArray), false))))) = some (r1, r2, r3, r4, r5, r6) := by rw [if_neg (show ¬ (false = true) by decide)] at H; exact H
        clear H
        have H := H1
        clear H1
        replace H := Option.bind_eq_some_iff.mp H
        obtain ⟨t248, A100, H⟩ := H
        replace H : ((topiaryref12_begins.f a0 t248 (⟨#[61]⟩ : ByteArray)).bind fun t249 => (if t249 = true then ((topiaryref11_Skip.f kj4 a0 (wrap64 (t248 + 1))).bind fun t250 => ((topiaryref12_begins.f a0 t250 (⟨#[34]⟩ : ByteArray)).bind fun t251 => (if t251 = true then (topiaryref12_attr.j1 kj4 a0 t246 t247 t250 false) else ((topiaryref12_begins.f a0 t250 (⟨#[39]⟩ : ByteArray)).bind fun t252 => (topiaryref12_attr.j1 kj4 a0 t246 t247 t250 (!t252)))))) else (some (0, 0, 0, (⟨#[]⟩ : ByteArray), (⟨#[]⟩ : ByteArray), false)))) = some (r1, r2, r3, r4, r5, r6) := H
        have A10 := Aside0.mk A100
        clear A100
        replace H := Option.bind_eq_some_iff.mp H
        obtain ⟨t249, A110, H⟩ := H
        replace H : (if t249 = true then ((topiaryref11_Skip.f kj4 a0 (wrap64 (t248 + 1))).bind fun t250 => ((topiaryref12_begins.f a0 t250 (⟨#[34]⟩ : ByteArray)).bind fun t251 => (if t251 = true then (topiaryref12_attr.j1 kj4 a0 t246 t247 t250 false) else ((topiaryref12_begins.f a0 t250 (⟨#[39]⟩ : ByteArray)).bind fun t252 => (topiaryref12_attr.j1 kj4 a0 t246 t247 t250 (!t252)))))) else (some (0, 0, 0, (⟨#[]⟩ : ByteArray), (⟨#[]⟩ : ByteArray), false))) = some (r1, r2, r3, r4, r5, r6) := H
        have A11 := Aside0.mk A110
        clear A110
        by_cases c12 : t249 = true
        · subst c12
          have H1 : ((topiaryref11_Skip.f kj4 a0 (wrap64 (t248 + 1))).bind fun t250 => ((topiaryref12_begins.f a0 t250 (⟨#[34]⟩ : ByteArray)).bind fun t251 => (if t251 = true then (topiaryref12_attr.j1 kj4 a0 t246 t247 t250 false) else ((topiaryref12_begins.f a0 t250 (⟨#[39]⟩ : ByteArray)).bind fun t252 => (topiaryref12_attr.j1 kj4 a0 t246 t247 t250 (!t252)))))) = some (r1, r2, r3, r4, r5, r6) := by rw [if_pos rfl] at H; exact H
          clear H
          have H := H1
          clear H1
          replace H := Option.bind_eq_some_iff.mp H
          obtain ⟨t250, A130, H⟩ := H
          replace H : ((topiaryref12_begins.f a0 t250 (⟨#[34]⟩ : ByteArray)).bind fun t251 => (if t251 = true then (topiaryref12_attr.j1 kj4 a0 t246 t247 t250 false) else ((topiaryref12_begins.f a0 t250 (⟨#[39]⟩ : ByteArray)).bind fun t252 => (topiaryref12_attr.j1 kj4 a0 t246 t247 t250 (!t252))))) = some (r1, r2, r3, r4, r5, r6) := H
          have A13 := Aside0.mk A130
          clear A130
          have HC14 := Aside0.mk H
          clear H
          go_upto_region 9 with (first | ((with_reducible refine gate_callee (f := 33) rfl ?_); refine goesL_ (some 31) rfl rfl Try.func33 (by kernel_rfl) rfl #[.string a0, .int .i64 t247] rfl (by (try simp only [List.map_toArray, List.map_cons, List.map_nil]); first | done | rfl | (simp only [List.length_drop, List.length_take]; rfl)) ?_; (with_reducible refine (topiaryref11_Skip.calls kj4 a0 t247 t248 _ A10.out).mono ?_); rintro e w' ⟨rfl, ⟨nd, rfl⟩⟩; refine ⟨_, rfl, ?_⟩) | ((with_reducible refine gate_callee (f := 74) rfl ?_); refine goesL_ (some 34) rfl rfl Try.func74 (by kernel_rfl) rfl #[.string a0, .int .i64 t248, .string (⟨#[61]⟩ : ByteArray)] rfl (by (try simp only [List.map_toArray, List.map_cons, List.map_nil]); first | done | rfl | (simp only [List.length_drop, List.length_take]; rfl)) ?_; (with_reducible refine (topiaryref12_begins.calls a0 t248 (⟨#[61]⟩ : ByteArray) true _ A11.out).mono ?_); rintro e w' ⟨rfl, ⟨nd, rfl⟩⟩; refine ⟨_, rfl, ?_⟩) | ((with_reducible refine gate_callee (f := 33) rfl ?_); refine goesL_ (some 40) rfl rfl Try.func33 (by kernel_rfl) rfl #[.string a0, .int .i64 (wrap64 (t248 + 1))] rfl (by (try simp only [List.map_toArray, List.map_cons, List.map_nil]); first | done | rfl | (simp only [List.length_drop, List.length_take]; rfl)) ?_; (with_reducible refine (topiaryref11_Skip.calls kj4 a0 (wrap64 (t248 + 1)) t250 _ A13.out).mono ?_); rintro e w' ⟨rfl, ⟨nd, rfl⟩⟩; refine ⟨_, rfl, ?_⟩))
          (try simp only [Act.put, List.setIfInBounds_toArray, List.set_cons_zero, List.set_cons_succ])
          go_cut [50] (fun v50 wc => ∃ (kq : Nat) (x50_13 : Bool), v50 = .bool x50_13 ∧ Aside0 (topiaryref12_attr.j1 kq a0 t246 t247 t250 x50_13 = some (r1, r2, r3, r4, r5, r6)) ∧ Aside0 (kq ≤ kj4) ∧ Aside0 (wc.heap[gb245]? = some (.cells #[.int .i64 0, .int .i64 0, .int .i64 0, .string (⟨#[]⟩ : ByteArray), .string (⟨#[]⟩ : ByteArray)] 46 (0, 0))) ∧ Aside0 (Below w.heap.size w wc))
          case first =>
            have H := HC14.out
            clear HC14
            replace H := Option.bind_eq_some_iff.mp H
            obtain ⟨t251, A150, H⟩ := H
            replace H : (if t251 = true then (topiaryref12_attr.j1 kj4 a0 t246 t247 t250 false) else ((topiaryref12_begins.f a0 t250 (⟨#[39]⟩ : ByteArray)).bind fun t252 => (topiaryref12_attr.j1 kj4 a0 t246 t247 t250 (!t252)))) = some (r1, r2, r3, r4, r5, r6) := H
            have A15 := Aside0.mk A150
            clear A150
            by_cases c16 : t251 = true
            · subst c16
              have H1 : (topiaryref12_attr.j1 kj4 a0 t246 t247 t250 false) = some (r1, r2, r3, r4, r5, r6) := by rw [if_pos rfl] at H; exact H
              clear H
              have H := H1
              clear H1
              have H' := Aside0.mk H
              clear H
              go_wp2_with (first | ((with_reducible refine gate_callee (f := 74) rfl ?_); refine goesL_ (some 43) rfl rfl Try.func74 (by kernel_rfl) rfl #[.string a0, .int .i64 t250, .string (⟨#[34]⟩ : ByteArray)] rfl (by (try simp only [List.map_toArray, List.map_cons, List.map_nil]); first | done | rfl | (simp only [List.length_drop, List.length_take]; rfl)) ?_; (with_reducible refine (topiaryref12_begins.calls a0 t250 (⟨#[34]⟩ : ByteArray) true _ A15.out).mono ?_); rintro e w' ⟨rfl, ⟨nd, rfl⟩⟩; refine ⟨_, rfl, ?_⟩))
              go_meet
              case rel => exact ⟨_, (false), (by first | rfl | (simp; done) | (simp [*]; done)), H', ⟨by have := HJ4.out; first | omega | exact Nat.le_refl _⟩, ⟨by (with_reducible repeat (first | refine blk_drewN ?_ _ | refine blk_drew ?_ | refine blk_alloc ?_ _)); exact BK245.out⟩, ⟨by repeat (first | (with_reducible first | exact HB.out | apply below_alloc | apply pw_below_drewN | apply below_drew1 | refine below_set ?_ GE245.out) | exact HB.out)⟩⟩
            · replace c16 := Bool.eq_false_iff.mpr c16
              subst c16
              have H1 : ((topiaryref12_begins.f a0 t250 (⟨#[39]⟩ : ByteArray)).bind fun t252 => (topiaryref12_attr.j1 kj4 a0 t246 t247 t250 (!t252))) = some (r1, r2, r3, r4, r5, r6) := by rw [if_neg (show ¬ (false = true) by decide)] at H; exact H
              clear H
              have H := H1
              clear H1
              replace H := Option.bind_eq_some_iff.mp H
              obtain ⟨t252, A170, H⟩ := H
              replace H : (topiaryref12_attr.j1 kj4 a0 t246 t247 t250 (!t252)) = some (r1, r2, r3, r4, r5, r6) := H
              have A17 := Aside0.mk A170
              clear A170
              have H' := Aside0.mk H
              clear H
              go_wp2_with (first | ((with_reducible refine gate_callee (f := 74) rfl ?_); refine goesL_ (some 43) rfl rfl Try.func74 (by kernel_rfl) rfl #[.string a0, .int .i64 t250, .string (⟨#[34]⟩ : ByteArray)] rfl (by (try simp only [List.map_toArray, List.map_cons, List.map_nil]); first | done | rfl | (simp only [List.length_drop, List.length_take]; rfl)) ?_; (with_reducible refine (topiaryref12_begins.calls a0 t250 (⟨#[34]⟩ : ByteArray) false _ A15.out).mono ?_); rintro e w' ⟨rfl, ⟨nd, rfl⟩⟩; refine ⟨_, rfl, ?_⟩) | (go_at_call 74; (with_reducible refine (topiaryref12_begins.calls a0 t250 (⟨#[39]⟩ : ByteArray) t252 _ A17.out).mono ?_); rintro e w' ⟨rfl, ⟨nd, rfl⟩⟩))
              go_meet
              case rel => exact ⟨_, (!t252), (by first | rfl | (simp; done) | (simp [*]; done)), H', ⟨by have := HJ4.out; first | omega | exact Nat.le_refl _⟩, ⟨by (with_reducible repeat (first | refine blk_drewN ?_ _ | refine blk_drew ?_ | refine blk_alloc ?_ _)); exact BK245.out⟩, ⟨by repeat (first | (with_reducible first | exact HB.out | apply below_alloc | apply pw_below_drewN | apply below_drew1 | refine below_set ?_ GE245.out) | exact HB.out)⟩⟩
          case rest =>
            clear HC14
            try clear c1
            try clear p2
            try clear c3
            try clear p6
            try clear c7
            try clear c7b0
            try clear c7b1
            try clear c8
            try clear c12
            try clear c16
            try clear hcz9_0
            try clear hcz9_1
            try clear hcz9_2
            try clear hcz9_3
            try clear hcz9_4
            try clear hfz9_0
            try clear hfz9_1
            try clear hfz9_2
            try clear hfz9_3
            try clear hfz9_4
            try clear p2
            obtain ⟨kq, x50_13, rfl, HA, HJ13, BK245, HB⟩ := hcut
            cases kq with
            | zero => exact absurd HA.out (by simp [topiaryref12_attr.j1])
            | succ kj13 =>
              have H := HA.out
              clear HA
              simp only [topiaryref12_attr.j1] at H
              by_cases c18 : x50_13 = true
              · subst c18
                have H1 : (some (0, 0, 0, (⟨#[]⟩ : ByteArray), (⟨#[]⟩ : ByteArray), false)) = some (r1, r2, r3, r4, r5, r6) := by rw [if_pos rfl] at H; exact H
                clear H
                have H := H1
                clear H1
                simp only [Option.some.injEq, Prod.mk.injEq] at H
                obtain ⟨rfl, rfl, rfl, rfl, rfl, rfl⟩ := H
                have hcz19_0 : wc.cell? ⟨gb245, 0, none⟩ = some (.int .i64 0) := (blk_cell BK245.out 0).trans rfl
                have hcz19_1 : wc.cell? ⟨gb245, 1, none⟩ = some (.int .i64 0) := (blk_cell BK245.out 1).trans rfl
                have hcz19_2 : wc.cell? ⟨gb245, 2, none⟩ = some (.int .i64 0) := (blk_cell BK245.out 2).trans rfl
                have hcz19_3 : wc.cell? ⟨gb245, 3, none⟩ = some (.string (⟨#[]⟩ : ByteArray)) := (blk_cell BK245.out 3).trans rfl
                have hcz19_4 : wc.cell? ⟨gb245, 4, none⟩ = some (.string (⟨#[]⟩ : ByteArray)) := (blk_cell BK245.out 4).trans rfl
                have hfz19_0 := blk_frozen BK245.out 0
                have hfz19_1 := blk_frozen BK245.out 1
                have hfz19_2 := blk_frozen BK245.out 2
                have hfz19_3 := blk_frozen BK245.out 3
                have hfz19_4 := blk_frozen BK245.out 4
                go_wp2
                refine bodyPost_ret (results_ct rfl _ _ gb245 46 #[.int .i64 0, .int .i64 0, .int .i64 0, .string (⟨#[]⟩ : ByteArray), .string (⟨#[]⟩ : ByteArray)] (0, 0) _ rfl (by (with_reducible repeat (first | refine blk_drewN ?_ _ | refine blk_drew ?_ | refine blk_alloc ?_ _)); refine blk_put (cs := #[.int .i64 0, .int .i64 0, .int .i64 0, .string (⟨#[]⟩ : ByteArray), .string (⟨#[]⟩ : ByteArray)]) ?_ 4 _ rfl; (with_reducible repeat (first | refine blk_drewN ?_ _ | refine blk_drew ?_ | refine blk_alloc ?_ _)); refine blk_put (cs := #[.int .i64 0, .int .i64 0, .int .i64 0, .string (⟨#[]⟩ : ByteArray), .string (⟨#[]⟩ : ByteArray)]) ?_ 3 _ rfl; (with_reducible repeat (first | refine blk_drewN ?_ _ | refine blk_drew ?_ | refine blk_alloc ?_ _)); refine blk_put (cs := #[.int .i64 0, .int .i64 0, .int .i64 0, .string (⟨#[]⟩ : ByteArray), .string (⟨#[]⟩ : ByteArray)]) ?_ 2 _ rfl; (with_reducible repeat (first | refine blk_drewN ?_ _ | refine blk_drew ?_ | refine blk_alloc ?_ _)); refine blk_put (cs := #[.int .i64 0, .int .i64 0, .int .i64 0, .string (⟨#[]⟩ : ByteArray), .string (⟨#[]⟩ : ByteArray)]) ?_ 1 _ rfl; (with_reducible repeat (first | refine blk_drewN ?_ _ | refine blk_drew ?_ | refine blk_alloc ?_ _)); refine blk_put (cs := #[.int .i64 0, .int .i64 0, .int .i64 0, .string (⟨#[]⟩ : ByteArray), .string (⟨#[]⟩ : ByteArray)]) ?_ 0 _ rfl; (with_reducible repeat (first | refine blk_drewN ?_ _ | refine blk_drew ?_ | refine blk_alloc ?_ _)); exact BK245.out) Try.underlying46 rfl (by kernel_rfl)) rfl ?_
                exact ⟨by first | rfl | (simp [errW_none, errW_some] <;> rfl) | (simp [*, errW_none, errW_some] <;> rfl), by repeat (first | (with_reducible first | exact HB.out | apply below_alloc | apply pw_below_drewN | apply below_drew1 | refine below_set ?_ GE245.out) | exact HB.out)⟩
              · replace c18 := Bool.eq_false_iff.mpr c18
                subst c18
                have H1 : (if 0 ≤ t250 then (if t250 ≤ (wrap64 (t250 + 1)) then (if (wrap64 (t250 + 1)) ≤ (a0.size : Int) then ((topiaryref12_find.f kj13 a0 (wrap64 (t250 + 1)) (a0.extract (t250 : Int).toNat ((wrap64 (t250 + 1)) : Int).toNat)).bind fun t253 => (if t253 < 0 then (some (0, 0, 0, (⟨#[]⟩ : ByteArray), (⟨#[]⟩ : ByteArray), false)) else (if 0 ≤ (wrap64 (t250 + 1)) then (if (wrap64 (t250 + 1)) ≤ t253 then (if t253 ≤ (a0.size : Int) then ((topiaryref12_find.f kj13 (a0.extract ((wrap64 (t250 + 1)) : Int).toNat (t253 : Int).toNat) 0 (⟨#[60]⟩ : ByteArray)).bind fun t254 => (if t254 ≥ 0 then (some (0, 0, 0, (⟨#[]⟩ : ByteArray), (⟨#[]⟩ : ByteArray), false)) else ((topiaryref12_decoded.f kj13 (a0.extract ((wrap64 (t250 + 1)) : Int).toNat (t253 : Int).toNat)).bind fun bt255 => (if 0 ≤ t246 then (if t246 ≤ t247 then (if t247 ≤ (a0.size : Int) then (some (2, t246, wrap64 (t253 + 1), a0.extract (t246 : Int).toNat (t247 : Int).toNat, bt255.1, bt255.2)) else (none)) else (none)) else (none))))) else (none)) else (none)) else (none)))) else (none)) else (none)) else (none)) = some (r1, r2, r3, r4, r5, r6) := by rw [if_neg (show ¬ (false = true) by decide)] at H; exact H
                clear H
                have H := H1
                clear H1
                by_cases c20 : 0 ≤ t250
                · rw [if_pos c20] at H
                  have c20b0 := eq_true c20
                  have c20b1 : decide (0 ≤ t250) = true := decide_eq_true c20
                  clear c20
                  by_cases c21 : t250 ≤ (wrap64 (t250 + 1))
                  · rw [if_pos c21] at H
                    have c21b0 := eq_true c21
                    have c21b1 : decide (t250 ≤ (wrap64 (t250 + 1))) = true := decide_eq_true c21
                    by_cases c22 : (wrap64 (t250 + 1)) ≤ (a0.size : Int)
                    · rw [if_pos c22] at H
                      have c22b0 := eq_true c22
                      have c22b1 : decide ((wrap64 (t250 + 1)) ≤ (a0.size : Int)) = true := decide_eq_true c22
                      replace H := Option.bind_eq_some_iff.mp H
                      obtain ⟨t253, A230, H⟩ := H
                      replace H : (if t253 < 0 then (some (0, 0, 0, (⟨#[]⟩ : ByteArray), (⟨#[]⟩ : ByteArray), false)) else (if 0 ≤ (wrap64 (t250 + 1)) then (if (wrap64 (t250 + 1)) ≤ t253 then (if t253 ≤ (a0.size : Int) then ((topiaryref12_find.f kj13 (a0.extract ((wrap64 (t250 + 1)) : Int).toNat (t253 : Int).toNat) 0 (⟨#[60]⟩ : ByteArray)).bind fun t254 => (if t254 ≥ 0 then (some (0, 0, 0, (⟨#[]⟩ : ByteArray), (⟨#[]⟩ : ByteArray), false)) else ((topiaryref12_decoded.f kj13 (a0.extract ((wrap64 (t250 + 1)) : Int).toNat (t253 : Int).toNat)).bind fun bt255 => (if 0 ≤ t246 then (if t246 ≤ t247 then (if t247 ≤ (a0.size : Int) then (some (2, t246, wrap64 (t253 + 1), a0.extract (t246 : Int).toNat (t247 : Int).toNat, bt255.1, bt255.2)) else (none)) else (none)) else (none))))) else (none)) else (none)) else (none))) = some (r1, r2, r3, r4, r5, r6) := H
                      have A23 := Aside0.mk A230
                      clear A230
                      by_cases c24 : t253 < 0
                      · rw [if_pos c24] at H
                        have c24b0 : decide (t253 < 0) = true := decide_eq_true c24
                        clear c24
                        simp only [Option.some.injEq, Prod.mk.injEq] at H
                        obtain ⟨rfl, rfl, rfl, rfl, rfl, rfl⟩ := H
                        go_wp2_with (first | ((with_reducible refine gate_callee (f := 75) rfl ?_); refine goesL_ (some 60) rfl rfl Try.func75 (by kernel_rfl) rfl #[.string a0, .int .i64 (wrap64 (t250 + 1)), .string (a0.extract (t250 : Int).toNat ((wrap64 (t250 + 1)) : Int).toNat)] rfl (by (try simp only [List.map_toArray, List.map_cons, List.map_nil]); first | done | rfl | (simp only [List.length_drop, List.length_take]; rfl)) ?_; (with_reducible refine (topiaryref12_find.calls kj13 a0 (wrap64 (t250 + 1)) (a0.extract (t250 : Int).toNat ((wrap64 (t250 + 1)) : Int).toNat) t253 _ A23.out).mono ?_); rintro e w' ⟨rfl, ⟨nd, rfl⟩⟩; refine ⟨_, rfl, ?_⟩; (try (rw [drewN_self wc]; generalize hq_ : World.drewN wc _ = wc; have n0_ : Aside0 (wc.heap[gb245]? = some (.cells #[.int .i64 0, .int .i64 0, .int .i64 0, .string (⟨#[]⟩ : ByteArray), .string (⟨#[]⟩ : ByteArray)] 46 (0, 0))) := ⟨by rw [← hq_]; exact (by (with_reducible repeat (first | refine blk_drewN ?_ _ | refine blk_drew ?_ | refine blk_alloc ?_ _)); exact BK245.out)⟩; have n1_ : Aside0 (Below w.heap.size w wc) := ⟨by rw [← hq_]; exact (by repeat (first | (with_reducible first | exact HB.out | apply below_alloc | apply pw_below_drewN | apply below_drew1 | refine below_set ?_ GE245.out) | exact HB.out))⟩; clear BK245 HB hq_; have BK245 := n0_; have HB := n1_; clear n0_ n1_)); have hcz25_0 : wc.cell? ⟨gb245, 0, none⟩ = some (.int .i64 0) := (blk_cell BK245.out 0).trans rfl; have hcz25_1 : wc.cell? ⟨gb245, 1, none⟩ = some (.int .i64 0) := (blk_cell BK245.out 1).trans rfl; have hcz25_2 : wc.cell? ⟨gb245, 2, none⟩ = some (.int .i64 0) := (blk_cell BK245.out 2).trans rfl; have hcz25_3 : wc.cell? ⟨gb245, 3, none⟩ = some (.string (⟨#[]⟩ : ByteArray)) := (blk_cell BK245.out 3).trans rfl; have hcz25_4 : wc.cell? ⟨gb245, 4, none⟩ = some (.string (⟨#[]⟩ : ByteArray)) := (blk_cell BK245.out 4).trans rfl; have hfz25_0 := blk_frozen BK245.out 0; have hfz25_1 := blk_frozen BK245.out 1; have hfz25_2 := blk_frozen BK245.out 2; have hfz25_3 := blk_frozen BK245.out 3; have hfz25_4 := blk_frozen BK245.out 4))
                        refine bodyPost_ret (results_ct rfl _ _ gb245 46 #[.int .i64 0, .int .i64 0, .int .i64 0, .string (⟨#[]⟩ : ByteArray), .string (⟨#[]⟩ : ByteArray)] (0, 0) _ rfl (by (with_reducible repeat (first | refine blk_drewN ?_ _ | refine blk_drew ?_ | refine blk_alloc ?_ _)); refine blk_put (cs := #[.int .i64 0, .int .i64 0, .int .i64 0, .string (⟨#[]⟩ : ByteArray), .string (⟨#[]⟩ : ByteArray)]) ?_ 4 _ rfl; (with_reducible repeat (first | refine blk_drewN ?_ _ | refine blk_drew ?_ | refine blk_alloc ?_ _)); refine blk_put (cs := #[.int .i64 0, .int .i64 0, .int .i64 0, .string (⟨#[]⟩ : ByteArray), .string (⟨#[]⟩ : ByteArray)]) ?_ 3 _ rfl; (with_reducible repeat (first | refine blk_drewN ?_ _ | refine blk_drew ?_ | refine blk_alloc ?_ _)); refine blk_put (cs := #[.int .i64 0, .int .i64 0, .int .i64 0, .string (⟨#[]⟩ : ByteArray), .string (⟨#[]⟩ : ByteArray)]) ?_ 2 _ rfl; (with_reducible repeat (first | refine blk_drewN ?_ _ | refine blk_drew ?_ | refine blk_alloc ?_ _)); refine blk_put (cs := #[.int .i64 0, .int .i64 0, .int .i64 0, .string (⟨#[]⟩ : ByteArray), .string (⟨#[]⟩ : ByteArray)]) ?_ 1 _ rfl; (with_reducible repeat (first | refine blk_drewN ?_ _ | refine blk_drew ?_ | refine blk_alloc ?_ _)); refine blk_put (cs := #[.int .i64 0, .int .i64 0, .int .i64 0, .string (⟨#[]⟩ : ByteArray), .string (⟨#[]⟩ : ByteArray)]) ?_ 0 _ rfl; (with_reducible repeat (first | refine blk_drewN ?_ _ | refine blk_drew ?_ | refine blk_alloc ?_ _)); exact BK245.out) Try.underlying46 rfl (by kernel_rfl)) rfl ?_
                        exact ⟨by first | rfl | (simp [errW_none, errW_some] <;> rfl) | (simp [*, errW_none, errW_some] <;> rfl), by repeat (first | (with_reducible first | exact HB.out | apply below_alloc | apply pw_below_drewN | apply below_drew1 | refine below_set ?_ GE245.out) | exact HB.out)⟩
                      · rw [if_neg c24] at H
                        have c24b0 : decide (t253 < 0) = false := decide_eq_false c24
                        clear c24
                        obtain ⟨ji26, hji26⟩ : ∃ j_ : Int, (wrap64 (t250 + 1)) = j_ := ⟨_, rfl⟩
                        replace H : (if 0 ≤ (ji26) then (if (ji26) ≤ t253 then (if t253 ≤ (a0.size : Int) then ((topiaryref12_find.f kj13 (a0.extract ((ji26) : Int).toNat (t253 : Int).toNat) 0 (⟨#[60]⟩ : ByteArray)).bind fun t254 => (if t254 ≥ 0 then (some (0, 0, 0, (⟨#[]⟩ : ByteArray), (⟨#[]⟩ : ByteArray), false)) else ((topiaryref12_decoded.f kj13 (a0.extract ((ji26) : Int).toNat (t253 : Int).toNat)).bind fun bt255 => (if 0 ≤ t246 then (if t246 ≤ t247 then (if t247 ≤ (a0.size : Int) then (some (2, t246, wrap64 (t253 + 1), a0.extract (t246 : Int).toNat (t247 : Int).toNat, bt255.1, bt255.2)) else (none)) else (none)) else (none))))) else (none)) else (none)) else (none)) = some (r1, r2, r3, r4, r5, r6) := by first | (rw [hji26] at H; exact H) | (simp only [hji26] at H ⊢; exact H)
                        (try rw [hji26] at c21b0)
                        (try rw [hji26] at c21b1)
                        (try rw [hji26] at c21)
                        (try rw [hji26] at c22b0)
                        (try rw [hji26] at c22b1)
                        (try rw [hji26] at c22)
                        (try rw [hji26] at A23)
                        have hji26w : (IntKind.i64.wrap (t250 + 1)) = ji26 := (i64_w _).trans hji26
                        by_cases c27 : 0 ≤ (ji26)
                        · rw [if_pos c27] at H
                          have c27b0 := eq_true c27
                          have c27b1 : decide (0 ≤ (ji26)) = true := decide_eq_true c27
                          clear c27
                          by_cases c28 : (ji26) ≤ t253
                          · rw [if_pos c28] at H
                            have c28b0 := eq_true c28
                            have c28b1 : decide ((ji26) ≤ t253) = true := decide_eq_true c28
                            clear c28
                            by_cases c29 : t253 ≤ (a0.size : Int)
                            · rw [if_pos c29] at H
                              have c29b0 := eq_true c29
                              have c29b1 : decide (t253 ≤ (a0.size : Int)) = true := decide_eq_true c29
                              clear c29
                              replace H := Option.bind_eq_some_iff.mp H
                              obtain ⟨t254, A300, H⟩ := H
                              replace H : (if t254 ≥ 0 then (some (0, 0, 0, (⟨#[]⟩ : ByteArray), (⟨#[]⟩ : ByteArray), false)) else ((topiaryref12_decoded.f kj13 (a0.extract ((ji26) : Int).toNat (t253 : Int).toNat)).bind fun bt255 => (if 0 ≤ t246 then (if t246 ≤ t247 then (if t247 ≤ (a0.size : Int) then (some (2, t246, wrap64 (t253 + 1), a0.extract (t246 : Int).toNat (t247 : Int).toNat, bt255.1, bt255.2)) else (none)) else (none)) else (none)))) = some (r1, r2, r3, r4, r5, r6) := H
                              have A30 := Aside0.mk A300
                              clear A300
                              by_cases c31 : t254 ≥ 0
                              · rw [if_pos c31] at H
                                have c31b0 : decide (0 ≤ t254) = true := decide_eq_true c31
                                clear c31
                                simp only [Option.some.injEq, Prod.mk.injEq] at H
                                obtain ⟨rfl, rfl, rfl, rfl, rfl, rfl⟩ := H
                                go_wp2_with (first | ((with_reducible refine gate_callee (f := 75) rfl ?_); refine goesL_ (some 60) rfl rfl Try.func75 (by kernel_rfl) rfl #[.string a0, .int .i64 ji26, .string (a0.extract (t250 : Int).toNat ((ji26) : Int).toNat)] rfl (by (try simp only [List.map_toArray, List.map_cons, List.map_nil]); first | done | (simp only [hji26]; rfl) | rfl | (simp only [List.length_drop, List.length_take]; rfl)) ?_; (with_reducible refine (topiaryref12_find.calls kj13 a0 ji26 (a0.extract (t250 : Int).toNat ((ji26) : Int).toNat) t253 _ A23.out).mono ?_); rintro e w' ⟨rfl, ⟨nd, rfl⟩⟩; refine ⟨_, rfl, ?_⟩; (try (rw [drewN_self wc]; generalize hq_ : World.drewN wc _ = wc; have n0_ : Aside0 (wc.heap[gb245]? = some (.cells #[.int .i64 0, .int .i64 0, .int .i64 0, .string (⟨#[]⟩ : ByteArray), .string (⟨#[]⟩ : ByteArray)] 46 (0, 0))) := ⟨by rw [← hq_]; exact (by (with_reducible repeat (first | refine blk_drewN ?_ _ | refine blk_drew ?_ | refine blk_alloc ?_ _)); exact BK245.out)⟩; have n1_ : Aside0 (Below w.heap.size w wc) := ⟨by rw [← hq_]; exact (by repeat (first | (with_reducible first | exact HB.out | apply below_alloc | apply pw_below_drewN | apply below_drew1 | refine below_set ?_ GE245.out) | exact HB.out))⟩; clear BK245 HB hq_; have BK245 := n0_; have HB := n1_; clear n0_ n1_))) | ((with_reducible refine gate_callee (f := 75) rfl ?_); refine goesL_ (some 70) rfl rfl Try.func75 (by kernel_rfl) rfl #[.string (a0.extract ((ji26) : Int).toNat (t253 : Int).toNat), .int .i64 0, .string (⟨#[60]⟩ : ByteArray)] rfl (by (try simp only [List.map_toArray, List.map_cons, List.map_nil]); first | done | (simp only [hji26]; rfl) | rfl | (simp only [List.length_drop, List.length_take]; rfl)) ?_; (with_reducible refine (topiaryref12_find.calls kj13 (a0.extract ((ji26) : Int).toNat (t253 : Int).toNat) 0 (⟨#[60]⟩ : ByteArray) t254 _ A30.out).mono ?_); rintro e w' ⟨rfl, ⟨nd, rfl⟩⟩; refine ⟨_, rfl, ?_⟩; (try (rw [drewN_self wc]; generalize hq_ : World.drewN wc _ = wc; have n0_ : Aside0 (wc.heap[gb245]? = some (.cells #[.int .i64 0, .int .i64 0, .int .i64 0, .string (⟨#[]⟩ : ByteArray), .string (⟨#[]⟩ : ByteArray)] 46 (0, 0))) := ⟨by rw [← hq_]; exact (by (with_reducible repeat (first | refine blk_drewN ?_ _ | refine blk_drew ?_ | refine blk_alloc ?_ _)); exact BK245.out)⟩; have n1_ : Aside0 (Below w.heap.size w wc) := ⟨by rw [← hq_]; exact (by repeat (first | (with_reducible first | exact HB.out | apply below_alloc | apply pw_below_drewN | apply below_drew1 | refine below_set ?_ GE245.out) | exact HB.out))⟩; clear BK245 HB hq_; have BK245 := n0_; have HB := n1_; clear n0_ n1_)); have hcz32_0 : wc.cell? ⟨gb245, 0, none⟩ = some (.int .i64 0) := (blk_cell BK245.out 0).trans rfl; have hcz32_1 : wc.cell? ⟨gb245, 1, none⟩ = some (.int .i64 0) := (blk_cell BK245.out 1).trans rfl; have hcz32_2 : wc.cell? ⟨gb245, 2, none⟩ = some (.int .i64 0) := (blk_cell BK245.out 2).trans rfl; have hcz32_3 : wc.cell? ⟨gb245, 3, none⟩ = some (.string (⟨#[]⟩ : ByteArray)) := (blk_cell BK245.out 3).trans rfl; have hcz32_4 : wc.cell? ⟨gb245, 4, none⟩ = some (.string (⟨#[]⟩ : ByteArray)) := (blk_cell BK245.out 4).trans rfl; have hfz32_0 := blk_frozen BK245.out 0; have hfz32_1 := blk_frozen BK245.out 1; have hfz32_2 := blk_frozen BK245.out 2; have hfz32_3 := blk_frozen BK245.out 3; have hfz32_4 := blk_frozen BK245.out 4))
                                refine bodyPost_ret (results_ct rfl _ _ gb245 46 #[.int .i64 0, .int .i64 0, .int .i64 0, .string (⟨#[]⟩ : ByteArray), .string (⟨#[]⟩ : ByteArray)] (0, 0) _ rfl (by (with_reducible repeat (first | refine blk_drewN ?_ _ | refine blk_drew ?_ | refine blk_alloc ?_ _)); refine blk_put (cs := #[.int .i64 0, .int .i64 0, .int .i64 0, .string (⟨#[]⟩ : ByteArray), .string (⟨#[]⟩ : ByteArray)]) ?_ 4 _ rfl; (with_reducible repeat (first | refine blk_drewN ?_ _ | refine blk_drew ?_ | refine blk_alloc ?_ _)); refine blk_put (cs := #[.int .i64 0, .int .i64 0, .int .i64 0, .string (⟨#[]⟩ : ByteArray), .string (⟨#[]⟩ : ByteArray)]) ?_ 3 _ rfl; (with_reducible repeat (first | refine blk_drewN ?_ _ | refine blk_drew ?_ | refine blk_alloc ?_ _)); refine blk_put (cs := #[.int .i64 0, .int .i64 0, .int .i64 0, .string (⟨#[]⟩ : ByteArray), .string (⟨#[]⟩ : ByteArray)]) ?_ 2 _ rfl; (with_reducible repeat (first | refine blk_drewN ?_ _ | refine blk_drew ?_ | refine blk_alloc ?_ _)); refine blk_put (cs := #[.int .i64 0, .int .i64 0, .int .i64 0, .string (⟨#[]⟩ : ByteArray), .string (⟨#[]⟩ : ByteArray)]) ?_ 1 _ rfl; (with_reducible repeat (first | refine blk_drewN ?_ _ | refine blk_drew ?_ | refine blk_alloc ?_ _)); refine blk_put (cs := #[.int .i64 0, .int .i64 0, .int .i64 0, .string (⟨#[]⟩ : ByteArray), .string (⟨#[]⟩ : ByteArray)]) ?_ 0 _ rfl; (with_reducible repeat (first | refine blk_drewN ?_ _ | refine blk_drew ?_ | refine blk_alloc ?_ _)); exact BK245.out) Try.underlying46 rfl (by kernel_rfl)) rfl ?_
                                exact ⟨by first | rfl | (simp [errW_none, errW_some] <;> rfl) | (simp only [← hji26]; first | rfl | (simp [errW_none, errW_some] <;> rfl)) | (simp [*, errW_none, errW_some] <;> rfl), by repeat (first | (with_reducible first | exact HB.out | apply below_alloc | apply pw_below_drewN | apply below_drew1 | refine below_set ?_ GE245.out) | exact HB.out)⟩
                              · rw [if_neg c31] at H
                                have c31b0 : decide (0 ≤ t254) = false := decide_eq_false c31
                                clear c31
                                replace H := Option.bind_eq_some_iff.mp H
                                obtain ⟨⟨t255, t256⟩, A330, H⟩ := H
                                replace H : (if 0 ≤ t246 then (if t246 ≤ t247 then (if t247 ≤ (a0.size : Int) then (some (2, t246, wrap64 (t253 + 1), a0.extract (t246 : Int).toNat (t247 : Int).toNat, t255, t256)) else (none)) else (none)) else (none)) = some (r1, r2, r3, r4, r5, r6) := H
                                have A33 := Aside0.mk A330
                                clear A330
                                by_cases c34 : 0 ≤ t246
                                · rw [if_pos c34] at H
                                  have c34b0 := eq_true c34
                                  have c34b1 : decide (0 ≤ t246) = true := decide_eq_true c34
                                  clear c34
                                  by_cases c35 : t246 ≤ t247
                                  · rw [if_pos c35] at H
                                    have c35b0 := eq_true c35
                                    have c35b1 : decide (t246 ≤ t247) = true := decide_eq_true c35
                                    clear c35
                                    by_cases c36 : t247 ≤ (a0.size : Int)
                                    · rw [if_pos c36] at H
                                      have c36b0 := eq_true c36
                                      have c36b1 : decide (t247 ≤ (a0.size : Int)) = true := decide_eq_true c36
                                      clear c36
                                      simp only [Option.some.injEq, Prod.mk.injEq] at H
                                      obtain ⟨rfl, rfl, rfl, rfl, rfl, rfl⟩ := H
                                      go_wp2_with (first | ((with_reducible refine gate_callee (f := 75) rfl ?_); refine goesL_ (some 60) rfl rfl Try.func75 (by kernel_rfl) rfl #[.string a0, .int .i64 ji26, .string (a0.extract (t250 : Int).toNat ((ji26) : Int).toNat)] rfl (by (try simp only [List.map_toArray, List.map_cons, List.map_nil]); first | done | (simp only [hji26]; rfl) | rfl | (simp only [List.length_drop, List.length_take]; rfl)) ?_; (with_reducible refine (topiaryref12_find.calls kj13 a0 ji26 (a0.extract (t250 : Int).toNat ((ji26) : Int).toNat) t253 _ A23.out).mono ?_); rintro e w' ⟨rfl, ⟨nd, rfl⟩⟩; refine ⟨_, rfl, ?_⟩; (try (rw [drewN_self wc]; generalize hq_ : World.drewN wc _ = wc; have n0_ : Aside0 (wc.heap[gb245]? = some (.cells #[.int .i64 0, .int .i64 0, .int .i64 0, .string (⟨#[]⟩ : ByteArray), .string (⟨#[]⟩ : ByteArray)] 46 (0, 0))) := ⟨by rw [← hq_]; exact (by (with_reducible repeat (first | refine blk_drewN ?_ _ | refine blk_drew ?_ | refine blk_alloc ?_ _)); exact BK245.out)⟩; have n1_ : Aside0 (Below w.heap.size w wc) := ⟨by rw [← hq_]; exact (by repeat (first | (with_reducible first | exact HB.out | apply below_alloc | apply pw_below_drewN | apply below_drew1 | refine below_set ?_ GE245.out) | exact HB.out))⟩; clear BK245 HB hq_; have BK245 := n0_; have HB := n1_; clear n0_ n1_))) | ((with_reducible refine gate_callee (f := 75) rfl ?_); refine goesL_ (some 70) rfl rfl Try.func75 (by kernel_rfl) rfl #[.string (a0.extract ((ji26) : Int).toNat (t253 : Int).toNat), .int .i64 0, .string (⟨#[60]⟩ : ByteArray)] rfl (by (try simp only [List.map_toArray, List.map_cons, List.map_nil]); first | done | (simp only [hji26]; rfl) | rfl | (simp only [List.length_drop, List.length_take]; rfl)) ?_; (with_reducible refine (topiaryref12_find.calls kj13 (a0.extract ((ji26) : Int).toNat (t253 : Int).toNat) 0 (⟨#[60]⟩ : ByteArray) t254 _ A30.out).mono ?_); rintro e w' ⟨rfl, ⟨nd, rfl⟩⟩; refine ⟨_, rfl, ?_⟩; (try (rw [drewN_self wc]; generalize hq_ : World.drewN wc _ = wc; have n0_ : Aside0 (wc.heap[gb245]? = some (.cells #[.int .i64 0, .int .i64 0, .int .i64 0, .string (⟨#[]⟩ : ByteArray), .string (⟨#[]⟩ : ByteArray)] 46 (0, 0))) := ⟨by rw [← hq_]; exact (by (with_reducible repeat (first | refine blk_drewN ?_ _ | refine blk_drew ?_ | refine blk_alloc ?_ _)); exact BK245.out)⟩; have n1_ : Aside0 (Below w.heap.size w wc) := ⟨by rw [← hq_]; exact (by repeat (first | (with_reducible first | exact HB.out | apply below_alloc | apply pw_below_drewN | apply below_drew1 | refine below_set ?_ GE245.out) | exact HB.out))⟩; clear BK245 HB hq_; have BK245 := n0_; have HB := n1_; clear n0_ n1_))) | ((with_reducible refine gate_callee (f := 77) rfl ?_); refine goesL_ (some 75) rfl rfl Try.func77 (by kernel_rfl) rfl #[.string (a0.extract ((ji26) : Int).toNat (t253 : Int).toNat)] rfl (by (try simp only [List.map_toArray, List.map_cons, List.map_nil]); first | done | (simp only [hji26]; rfl) | rfl | (simp only [List.length_drop, List.length_take]; rfl)) ?_; (with_reducible refine (topiaryref12_decoded.calls kj13 (a0.extract ((ji26) : Int).toNat (t253 : Int).toNat) t255 t256 _ A33.out).mono ?_); rintro e w37 ⟨rfl, hb⟩; refine ⟨_, rfl, ?_⟩; have n0_ := Aside0.mk (blk_below (g := gb245) (o := .cells #[.int .i64 0, .int .i64 0, .int .i64 0, .string (⟨#[]⟩ : ByteArray), .string (⟨#[]⟩ : ByteArray)] 46 (0, 0)) (by (with_reducible repeat (first | refine blk_drewN ?_ _ | refine blk_drew ?_ | refine blk_alloc ?_ _)); exact BK245.out) hb); have n1_ := Aside0.mk (below_step (by repeat (first | (with_reducible first | exact HB.out | apply below_alloc | apply pw_below_drewN | apply below_drew1 | refine below_set ?_ GE245.out) | exact HB.out)) hb); clear BK245; clear HB; have BK245 := n0_; have HB := n1_; clear n0_ n1_; (try clear hb); (try clear hb2); (try clear hk); (try clear hi); have hcz38_0 : w37.cell? ⟨gb245, 0, none⟩ = some (.int .i64 0) := (blk_cell BK245.out 0).trans rfl; have hcz38_1 : w37.cell? ⟨gb245, 1, none⟩ = some (.int .i64 0) := (blk_cell BK245.out 1).trans rfl; have hcz38_2 : w37.cell? ⟨gb245, 2, none⟩ = some (.int .i64 0) := (blk_cell BK245.out 2).trans rfl; have hcz38_3 : w37.cell? ⟨gb245, 3, none⟩ = some (.string (⟨#[]⟩ : ByteArray)) := (blk_cell BK245.out 3).trans rfl; have hcz38_4 : w37.cell? ⟨gb245, 4, none⟩ = some (.string (⟨#[]⟩ : ByteArray)) := (blk_cell BK245.out 4).trans rfl; have hfz38_0 := blk_frozen BK245.out 0; have hfz38_1 := blk_frozen BK245.out 1; have hfz38_2 := blk_frozen BK245.out 2; have hfz38_3 := blk_frozen BK245.out 3; have hfz38_4 := blk_frozen BK245.out 4))
                                      refine bodyPost_ret (results_ct rfl _ _ gb245 46 #[.int .i64 2, .int .i64 t246, .int .i64 (wrap64 (t253 + 1)), .string (a0.extract (t246 : Int).toNat (t247 : Int).toNat), .string t255] (0, 0) _ rfl (by (with_reducible repeat (first | refine blk_drewN ?_ _ | refine blk_drew ?_ | refine blk_alloc ?_ _)); refine blk_put (cs := #[.int .i64 2, .int .i64 t246, .int .i64 (wrap64 (t253 + 1)), .string (a0.extract (t246 : Int).toNat (t247 : Int).toNat), .string (⟨#[]⟩ : ByteArray)]) ?_ 4 _ rfl; (with_reducible repeat (first | refine blk_drewN ?_ _ | refine blk_drew ?_ | refine blk_alloc ?_ _)); refine blk_put (cs := #[.int .i64 2, .int .i64 t246, .int .i64 (wrap64 (t253 + 1)), .string (⟨#[]⟩ : ByteArray), .string (⟨#[]⟩ : ByteArray)]) ?_ 3 _ rfl; (with_reducible repeat (first | refine blk_drewN ?_ _ | refine blk_drew ?_ | refine blk_alloc ?_ _)); refine blk_put (cs := #[.int .i64 2, .int .i64 t246, .int .i64 0, .string (⟨#[]⟩ : ByteArray), .string (⟨#[]⟩ : ByteArray)]) ?_ 2 _ rfl; (with_reducible repeat (first | refine blk_drewN ?_ _ | refine blk_drew ?_ | refine blk_alloc ?_ _)); refine blk_put (cs := #[.int .i64 2, .int .i64 0, .int .i64 0, .string (⟨#[]⟩ : ByteArray), .string (⟨#[]⟩ : ByteArray)]) ?_ 1 _ rfl; (with_reducible repeat (first | refine blk_drewN ?_ _ | refine blk_drew ?_ | refine blk_alloc ?_ _)); refine blk_put (cs := #[.int .i64 0, .int .i64 0, .int .i64 0, .string (⟨#[]⟩ : ByteArray), .string (⟨#[]⟩ : ByteArray)]) ?_ 0 _ rfl; (with_reducible repeat (first | refine blk_drewN ?_ _ | refine blk_drew ?_ | refine blk_alloc ?_ _)); exact BK245.out) Try.underlying46 rfl (by kernel_rfl)) rfl ?_
                                      exact ⟨by first | rfl | (simp [errW_none, errW_some] <;> rfl) | (simp only [← hji26]; first | rfl | (simp [errW_none, errW_some] <;> rfl)) | (simp [*, errW_none, errW_some] <;> rfl), by repeat (first | (with_reducible first | exact HB.out | apply below_alloc | apply pw_below_drewN | apply below_drew1 | refine below_set ?_ GE245.out) | exact HB.out)⟩
                                    · rw [if_neg c36] at H
                                      exact absurd H (by simp)
                                  · rw [if_neg c35] at H
                                    exact absurd H (by simp)
                                · rw [if_neg c34] at H
                                  exact absurd H (by simp)
                            · rw [if_neg c29] at H
                              exact absurd H (by simp)
                          · rw [if_neg c28] at H
                            exact absurd H (by simp)
                        · rw [if_neg c27] at H
                          exact absurd H (by simp)
                    · rw [if_neg c22] at H
                      exact absurd H (by simp)
                  · rw [if_neg c21] at H
                    exact absurd H (by simp)
                · rw [if_neg c20] at H
                  exact absurd H (by simp)
        · replace c12 := Bool.eq_false_iff.mpr c12
          subst c12
          have H1 : (some (0, 0, 0, (⟨#[]⟩ : ByteArray), (⟨#[]⟩ : ByteArray), false)) = some (r1, r2, r3, r4, r5, r6) := by rw [if_neg (show ¬ (false = true) by decide)] at H; exact H
          clear H
          have H := H1
          clear H1
          simp only [Option.some.injEq, Prod.mk.injEq] at H
          obtain ⟨rfl, rfl, rfl, rfl, rfl, rfl⟩ := H
          go_wp2_with (first | ((with_reducible refine gate_callee (f := 33) rfl ?_); refine goesL_ (some 31) rfl rfl Try.func33 (by kernel_rfl) rfl #[.string a0, .int .i64 t247] rfl (by (try simp only [List.map_toArray, List.map_cons, List.map_nil]); first | done | rfl | (simp only [List.length_drop, List.length_take]; rfl)) ?_; (with_reducible refine (topiaryref11_Skip.calls kj4 a0 t247 t248 _ A10.out).mono ?_); rintro e w' ⟨rfl, ⟨nd, rfl⟩⟩; refine ⟨_, rfl, ?_⟩; (try (rw [drewN_self wc]; generalize hq_ : World.drewN wc _ = wc; have n0_ : Aside0 (wc.heap[gb245]? = some (.cells #[.int .i64 0, .int .i64 0, .int .i64 0, .string (⟨#[]⟩ : ByteArray), .string (⟨#[]⟩ : ByteArray)] 46 (0, 0))) := ⟨by rw [← hq_]; exact (by (with_reducible repeat (first | refine blk_drewN ?_ _ | refine blk_drew ?_ | refine blk_alloc ?_ _)); exact BK245.out)⟩; have n1_ : Aside0 (Below w.heap.size w wc) := ⟨by rw [← hq_]; exact (by repeat (first | (with_reducible first | exact HB.out | apply below_alloc | apply pw_below_drewN | apply below_drew1 | refine below_set ?_ GE245.out) | exact HB.out))⟩; clear BK245 HB hq_; have BK245 := n0_; have HB := n1_; clear n0_ n1_))) | ((with_reducible refine gate_callee (f := 74) rfl ?_); refine goesL_ (some 34) rfl rfl Try.func74 (by kernel_rfl) rfl #[.string a0, .int .i64 t248, .string (⟨#[61]⟩ : ByteArray)] rfl (by (try simp only [List.map_toArray, List.map_cons, List.map_nil]); first | done | rfl | (simp only [List.length_drop, List.length_take]; rfl)) ?_; (with_reducible refine (topiaryref12_begins.calls a0 t248 (⟨#[61]⟩ : ByteArray) false _ A11.out).mono ?_); rintro e w' ⟨rfl, ⟨nd, rfl⟩⟩; refine ⟨_, rfl, ?_⟩; (try (rw [drewN_self wc]; generalize hq_ : World.drewN wc _ = wc; have n0_ : Aside0 (wc.heap[gb245]? = some (.cells #[.int .i64 0, .int .i64 0, .int .i64 0, .string (⟨#[]⟩ : ByteArray), .string (⟨#[]⟩ : ByteArray)] 46 (0, 0))) := ⟨by rw [← hq_]; exact (by (with_reducible repeat (first | refine blk_drewN ?_ _ | refine blk_drew ?_ | refine blk_alloc ?_ _)); exact BK245.out)⟩; have n1_ : Aside0 (Below w.heap.size w wc) := ⟨by rw [← hq_]; exact (by repeat (first | (with_reducible first | exact HB.out | apply below_alloc | apply pw_below_drewN | apply below_drew1 | refine below_set ?_ GE245.out) | exact HB.out))⟩; clear BK245 HB hq_; have BK245 := n0_; have HB := n1_; clear n0_ n1_)); have hcz39_0 : wc.cell? ⟨gb245, 0, none⟩ = some (.int .i64 0) := (blk_cell BK245.out 0).trans rfl; have hcz39_1 : wc.cell? ⟨gb245, 1, none⟩ = some (.int .i64 0) := (blk_cell BK245.out 1).trans rfl; have hcz39_2 : wc.cell? ⟨gb245, 2, none⟩ = some (.int .i64 0) := (blk_cell BK245.out 2).trans rfl; have hcz39_3 : wc.cell? ⟨gb245, 3, none⟩ = some (.string (⟨#[]⟩ : ByteArray)) := (blk_cell BK245.out 3).trans rfl; have hcz39_4 : wc.cell? ⟨gb245, 4, none⟩ = some (.string (⟨#[]⟩ : ByteArray)) := (blk_cell BK245.out 4).trans rfl; have hfz39_0 := blk_frozen BK245.out 0; have hfz39_1 := blk_frozen BK245.out 1; have hfz39_2 := blk_frozen BK245.out 2; have hfz39_3 := blk_frozen BK245.out 3; have hfz39_4 := blk_frozen BK245.out 4))
          refine bodyPost_ret (results_ct rfl _ _ gb245 46 #[.int .i64 0, .int .i64 0, .int .i64 0, .string (⟨#[]⟩ : ByteArray), .string (⟨#[]⟩ : ByteArray)] (0, 0) _ rfl (by (with_reducible repeat (first | refine blk_drewN ?_ _ | refine blk_drew ?_ | refine blk_alloc ?_ _)); refine blk_put (cs := #[.int .i64 0, .int .i64 0, .int .i64 0, .string (⟨#[]⟩ : ByteArray), .string (⟨#[]⟩ : ByteArray)]) ?_ 4 _ rfl; (with_reducible repeat (first | refine blk_drewN ?_ _ | refine blk_drew ?_ | refine blk_alloc ?_ _)); refine blk_put (cs := #[.int .i64 0, .int .i64 0, .int .i64 0, .string (⟨#[]⟩ : ByteArray), .string (⟨#[]⟩ : ByteArray)]) ?_ 3 _ rfl; (with_reducible repeat (first | refine blk_drewN ?_ _ | refine blk_drew ?_ | refine blk_alloc ?_ _)); refine blk_put (cs := #[.int .i64 0, .int .i64 0, .int .i64 0, .string (⟨#[]⟩ : ByteArray), .string (⟨#[]⟩ : ByteArray)]) ?_ 2 _ rfl; (with_reducible repeat (first | refine blk_drewN ?_ _ | refine blk_drew ?_ | refine blk_alloc ?_ _)); refine blk_put (cs := #[.int .i64 0, .int .i64 0, .int .i64 0, .string (⟨#[]⟩ : ByteArray), .string (⟨#[]⟩ : ByteArray)]) ?_ 1 _ rfl; (with_reducible repeat (first | refine blk_drewN ?_ _ | refine blk_drew ?_ | refine blk_alloc ?_ _)); refine blk_put (cs := #[.int .i64 0, .int .i64 0, .int .i64 0, .string (⟨#[]⟩ : ByteArray), .string (⟨#[]⟩ : ByteArray)]) ?_ 0 _ rfl; (with_reducible repeat (first | refine blk_drewN ?_ _ | refine blk_drew ?_ | refine blk_alloc ?_ _)); exact BK245.out) Try.underlying46 rfl (by kernel_rfl)) rfl ?_
          exact ⟨by first | rfl | (simp [errW_none, errW_some] <;> rfl) | (simp [*, errW_none, errW_some] <;> rfl), by repeat (first | (with_reducible first | exact HB.out | apply below_alloc | apply pw_below_drewN | apply below_drew1 | refine below_set ?_ GE245.out) | exact HB.out)⟩
def topiaryref12_tag.l0 : Nat → ByteArray → List (S46) → Option ((List (S46)) × Bool)
  | 0, _, _ => none
  | k + 1, x0, x7 => if 0 ≤ (wrap64 ((x7.length : Int) - 1)) then (if (wrap64 ((x7.length : Int) - 1)) < (x7.length : Int) then ((topiaryref11_Skip.f k x0 ((rd_T46 x7 (wrap64 ((x7.length : Int) - 1))).f2)).bind fun t262 => ((topiaryref12_begins.f x0 t262 (⟨#[62]⟩ : ByteArray)).bind fun t263 => (if t263 = true then (if x7.length < 2513169434916 then (some ((x7 ++ [(⟨3, t262, wrap64 (t262 + 1), (⟨#[]⟩ : ByteArray), (⟨#[]⟩ : ByteArray)⟩ : S46)]), true)) else (none)) else ((topiaryref12_begins.f x0 t262 (⟨#[47, 62]⟩ : ByteArray)).bind fun t267 => (if t267 = true then (if x7.length < 2513169434916 then (some ((x7 ++ [(⟨4, t262, wrap64 (t262 + 2), (⟨#[]⟩ : ByteArray), (⟨#[]⟩ : ByteArray)⟩ : S46)]), true)) else (none)) else ((topiaryref12_attr.f k x0 ((rd_T46 x7 (wrap64 ((x7.length : Int) - 1))).f2)).bind fun bt271 => (if bt271.2.2.2.2.2 = true then (if x7.length < 2513169434916 then (topiaryref12_tag.l0 k x0 (x7 ++ [(⟨bt271.1, bt271.2.1, bt271.2.2.1, bt271.2.2.2.1, bt271.2.2.2.2.1⟩ : S46)])) else (none)) else (some (([] : List (S46)), false))))))))) else (none)) else (none)
def topiaryref12_tag.f (k : Nat) (a0 : ByteArray) (a1 : Int) : Option ((List (S46)) × Bool) := (topiaryref11_NameEnd.f k a0 (wrap64 (a1 + 1))).bind fun t257 => (if t257 = (wrap64 (a1 + 1)) then (some (([] : List (S46)), false)) else (if 0 ≤ (wrap64 (a1 + 1)) then (if (wrap64 (a1 + 1)) ≤ t257 then (if t257 ≤ (a0.size : Int) then (topiaryref12_tag.l0 k a0 (([(⟨1, a1, t257, a0.extract ((wrap64 (a1 + 1)) : Int).toNat (t257 : Int).toNat, (⟨#[]⟩ : ByteArray)⟩ : S46)] : List (S46)))) else (none)) else (none)) else (none)))
theorem topiaryref12_tag.mono_l : ∀ k, (∀ y0 y1, LeO (topiaryref12_tag.l0 k y0 y1) (topiaryref12_tag.l0 (k + 1) y0 y1))
  | 0 => fun _ _ r h => by simp [topiaryref12_tag.l0] at h
  | k + 1 => by
    have ih0 := topiaryref12_tag.mono_l k
    · intro y0 y1
      unfold topiaryref12_tag.l0
      repeat' first
      | (with_reducible exact ih0 _ _)
      | (with_reducible exact topiaryref11_NameEnd.mono _ _ _)
      | (with_reducible exact topiaryref11_Skip.mono _ _ _)
      | (with_reducible exact topiaryref12_attr.mono _ _ _)
      | (with_reducible exact LeO.refl _)
      | (with_reducible exact LeO.none _)
      | (with_reducible refine LeO.ite ?_ ?_)
      | (with_reducible refine LeO.bind ?_ (fun _ => ?_))
      | exact ih0 _ _
      | exact topiaryref11_NameEnd.mono _ _ _
      | exact topiaryref11_Skip.mono _ _ _
      | exact topiaryref12_attr.mono _ _ _
      | exact LeO.none _
      | refine LeO.ite ?_ ?_
      | refine LeO.bind ?_ (fun _ => ?_)
theorem topiaryref12_tag.mono : ∀ a0 a1 k, LeO (topiaryref12_tag.f k a0 a1) (topiaryref12_tag.f (k + 1) a0 a1) := by
  intro a0 a1 k
  have ih0 := topiaryref12_tag.mono_l k
  unfold topiaryref12_tag.f
  repeat' first
      | (with_reducible exact ih0 _ _)
      | (with_reducible exact topiaryref11_NameEnd.mono _ _ _)
      | (with_reducible exact topiaryref11_Skip.mono _ _ _)
      | (with_reducible exact topiaryref12_attr.mono _ _ _)
      | (with_reducible exact LeO.refl _)
      | (with_reducible exact LeO.none _)
      | (with_reducible refine LeO.ite ?_ ?_)
      | (with_reducible refine LeO.bind ?_ (fun _ => ?_))
      | exact ih0 _ _
      | exact topiaryref11_NameEnd.mono _ _ _
      | exact topiaryref11_Skip.mono _ _ _
      | exact topiaryref12_attr.mono _ _ _
      | exact LeO.none _
      | refine LeO.ite ?_ ?_
      | refine LeO.bind ?_ (fun _ => ?_)
set_option maxHeartbeats 8000000 in
set_option maxRecDepth 100000 in
theorem topiaryref12_tag.calls (k : Nat) (a0 : ByteArray) (a1 : Int) (r1 : List (S46)) (r2 : Bool) (w : World) (h : topiaryref12_tag.f k a0 a1 = some (r1, r2)) :
    Calls Try.prog 76 #[.string a0, .int .i64 a1] w fun e w' => ∃ v0_ : Value, e = .returned (.tuple #[v0_, .bool r2]) ∧ Kd.R k46 46 w' w.heap.size (fun _ => True) v0_ r1 ∧ Below w.heap.size w w' := by
  have hu46 := Try.underlying46
  have HB := Aside0.mk (Below.refl w.heap.size w)
  have H : ((topiaryref11_NameEnd.f k a0 (wrap64 (a1 + 1))).bind fun t257 => (if t257 = (wrap64 (a1 + 1)) then (some (([] : List (S46)), false)) else (if 0 ≤ (wrap64 (a1 + 1)) then (if (wrap64 (a1 + 1)) ≤ t257 then (if t257 ≤ (a0.size : Int) then (topiaryref12_tag.l0 k a0 (([(⟨1, a1, t257, a0.extract ((wrap64 (a1 + 1)) : Int).toNat (t257 : Int).toNat, (⟨#[]⟩ : ByteArray)⟩ : S46)] : List (S46)))) else (none)) else (none)) else (none)))) = some (r1, r2) := h
  clear h
  replace H := Option.bind_eq_some_iff.mp H
  obtain ⟨t257, A30, H⟩ := H
  replace H : (if t257 = (wrap64 (a1 + 1)) then (some (([] : List (S46)), false)) else (if 0 ≤ (wrap64 (a1 + 1)) then (if (wrap64 (a1 + 1)) ≤ t257 then (if t257 ≤ (a0.size : Int) then (topiaryref12_tag.l0 k a0 (([(⟨1, a1, t257, a0.extract ((wrap64 (a1 + 1)) : Int).toNat (t257 : Int).toNat, (⟨#[]⟩ : ByteArray)⟩ : S46)] : List (S46)))) else (none)) else (none)) else (none))) = some (r1, r2) := H
  have A3 := Aside0.mk A30
  clear A30
  by_cases c4 : t257 = (wrap64 (a1 + 1))
  · rw [if_pos c4] at H
    have c4b0 : (t257 == (wrap64 (a1 + 1))) = true := beq_iff_eq.mpr c4
    have c4b1 : (t257 != (wrap64 (a1 + 1))) = false := bne_eq_false_iff_eq.mpr c4
    clear c4
    simp only [Option.some.injEq, Prod.mk.injEq] at H
    obtain ⟨rfl, rfl⟩ := H
    go_enter Try.func76, Try.ntmps76
    go_wp2_with (first | ((with_reducible refine gate_callee (f := 30) rfl ?_); refine goesL_ (some 15) rfl rfl Try.func30 (by kernel_rfl) rfl #[.string a0, .int .i64 (wrap64 (a1 + 1))] rfl (by (try simp only [List.map_toArray, List.map_cons, List.map_nil]); first | done | rfl | (simp only [List.length_drop, List.length_take]; rfl)) ?_; (with_reducible refine (topiaryref11_NameEnd.calls k a0 (wrap64 (a1 + 1)) t257 _ A3.out).mono ?_); rintro e w' ⟨rfl, ⟨nd, rfl⟩⟩; refine ⟨_, rfl, ?_⟩))
    go_ret2
    exact ⟨_, by first | rfl | (simp [errW_none, errW_some] <;> rfl) | (simp [*, errW_none, errW_some] <;> rfl), by first | exact Kd.R_nil _ _ _ _ _ | exact Kd.N_nil _ _ _ _ _ | exact Kd.V_nil _ _ _ _ _ | exact Kd.Q_nil _ _ _ _ _ | exact Kd.S_nil _ _ _ _ _, by repeat (first | (with_reducible first | exact HB.out | apply below_alloc | apply pw_below_drewN | apply below_drew1) | exact HB.out)⟩
  · rw [if_neg c4] at H
    have c4b0 : (t257 == (wrap64 (a1 + 1))) = false := beq_eq_false_iff_ne.mpr c4
    have c4b1 : (t257 != (wrap64 (a1 + 1))) = true := bne_iff_ne.mpr c4
    obtain ⟨ji5, hji5⟩ : ∃ j_ : Int, (wrap64 (a1 + 1)) = j_ := ⟨_, rfl⟩
    replace H : (if 0 ≤ (ji5) then (if (ji5) ≤ t257 then (if t257 ≤ (a0.size : Int) then (topiaryref12_tag.l0 k a0 (([(⟨1, a1, t257, a0.extract ((ji5) : Int).toNat (t257 : Int).toNat, (⟨#[]⟩ : ByteArray)⟩ : S46)] : List (S46)))) else (none)) else (none)) else (none)) = some (r1, r2) := by first | (rw [hji5] at H; exact H) | (simp only [hji5] at H ⊢; exact H)
    (try rw [hji5] at c4b0)
    (try rw [hji5] at c4b1)
    (try rw [hji5] at A3)
    have hji5w : (IntKind.i64.wrap (a1 + 1)) = ji5 := (i64_w _).trans hji5
    by_cases c6 : 0 ≤ (ji5)
    · rw [if_pos c6] at H
      have c6b0 := eq_true c6
      have c6b1 : decide (0 ≤ (ji5)) = true := decide_eq_true c6
      clear c6
      by_cases c7 : (ji5) ≤ t257
      · rw [if_pos c7] at H
        have c7b0 := eq_true c7
        have c7b1 : decide ((ji5) ≤ t257) = true := decide_eq_true c7
        clear c7
        by_cases c8 : t257 ≤ (a0.size : Int)
        · rw [if_pos c8] at H
          have c8b0 := eq_true c8
          have c8b1 : decide (t257 ≤ (a0.size : Int)) = true := decide_eq_true c8
          clear c8
          obtain ⟨y258, hy258⟩ : ∃ y_ : List (S46), y_ = (([(⟨1, a1, t257, a0.extract ((ji5) : Int).toNat (t257 : Int).toNat, (⟨#[]⟩ : ByteArray)⟩ : S46)] : List (S46))) := ⟨_, rfl⟩
          replace H : (topiaryref12_tag.l0 k a0 y258) = some (r1, r2) := by first | (rw [hy258]; with_reducible exact H) | (have H2_ := (Option.bind_some _ _).symm.trans H; rw [hy258]; with_reducible exact H2_) | (have H2_ := (Option.bind_some _ _).symm.trans H; with_reducible exact H2_) | with_reducible exact H | (rw [hy258]; exact H) | exact H
          have Ny258 := Aside0.mk hy258
          clear hy258
          have H' := Aside0.mk H
          clear H
          go_enter Try.func76, Try.ntmps76
          go_wp2_with (first | ((with_reducible refine gate_callee (f := 30) rfl ?_); refine goesL_ (some 15) rfl rfl Try.func30 (by kernel_rfl) rfl #[.string a0, .int .i64 ji5] rfl (by (try simp only [List.map_toArray, List.map_cons, List.map_nil]); first | done | (simp only [hji5]; rfl) | rfl | (simp only [List.length_drop, List.length_take]; rfl)) ?_; (with_reducible refine (topiaryref11_NameEnd.calls k a0 ji5 t257 _ A3.out).mono ?_); rintro e w' ⟨rfl, ⟨nd, rfl⟩⟩; refine ⟨_, rfl, ?_⟩) | ((with_reducible refine gate_dst (N := 28) rfl ?_); refine Kd.R_lit k46 _ 46 ?hg (N := 28) ?hd (xs := ([(⟨1, a1, t257, a0.extract ((ji5) : Int).toNat (t257 : Int).toNat, (⟨#[]⟩ : ByteArray)⟩ : S46)] : List (S46))) (inner := [.int .i64 1, .int .i64 a1, .int .i64 t257, .string (a0.extract ((ji5) : Int).toNat (t257 : Int).toNat), .string (⟨#[]⟩ : ByteArray)]) (ok := fun _ => True) (okp := fun _ => True) ?hr ?hp (fun _ hk => hk) trivial (Below.refl _ _) (Nat.le_refl _) (by simp) ?_; (case hd => rfl); (case hg => rfl); (case hr => first | (go_simp; done) | (go_simp; rfl)); (case hp => exact (Reps.c5 (show Kd.M k46 _ _ _ (⟨1, a1, t257, a0.extract ((ji5) : Int).toNat (t257 : Int).toNat, (⟨#[]⟩ : ByteArray)⟩ : S46) [.int .i64 1, .int .i64 a1, .int .i64 t257, .string (a0.extract ((ji5) : Int).toNat (t257 : Int).toNat), .string (⟨#[]⟩ : ByteArray)] from (k46_mkM _ _ _ (⟨1, a1, t257, a0.extract ((ji5) : Int).toNat (t257 : Int).toNat, (⟨#[]⟩ : ByteArray)⟩ : S46) )) (Reps.none _ _))); intro v259 w9 ho10 hb hg_ hnew_; clear hg_ hnew_; (first | rw [← Ny258.out] at ho10 | (simp only [Int.reduceToNat] at ho10; rw [← Ny258.out] at ho10)); have n0_ := Aside0.mk (Kd.R_lower ho10 (below_size (by repeat (first | (with_reducible first | exact HB.out | apply below_alloc | apply pw_below_drewN | apply below_drew1) | exact HB.out)))); have n1_ := Aside0.mk (below_step (by repeat (first | (with_reducible first | exact HB.out | apply below_alloc | apply pw_below_drewN | apply below_drew1) | exact HB.out)) hb); clear HB; have HO260 := n0_; have HB := n1_; clear n0_ n1_; clear hb ho10))
          go_loopg [7] k (fun kq v7 w' => ∃ (x7_1 : List (S46)), Aside0 (topiaryref12_tag.l0 kq a0 x7_1 = some (r1, r2)) ∧ Aside0 (kq ≤ k) ∧ Aside0 (Kd.R k46 46 w' w.heap.size (fun _ => True) v7 x7_1) ∧ Aside0 (Below w.heap.size w w'))
          case atStart => exact ⟨(y258), H', ⟨Nat.le_refl _⟩, ⟨by (with_reducible repeat (first | apply Kd.R_alloc | apply Kd.R_drewN | apply Kd.R_drew)); exact HO260.out⟩, ⟨by repeat (first | (with_reducible first | exact HB.out | apply below_alloc | apply pw_below_drewN | apply below_drew1) | exact HB.out)⟩⟩
          case round =>
            clear H'
            try clear p2
            try clear c3
            try clear c4
            try clear c4b0
            try clear c4b1
            try clear c5
            try clear c6
            try clear c6b0
            try clear c6b1
            try clear p6
            try clear c7
            try clear c7b0
            try clear c7b1
            try clear c8
            try clear c8b0
            try clear c8b1
            obtain ⟨x7_1, HA, HK1, HO_7, HB⟩ := hrel
            cases gk with
            | zero => exact absurd HA.out (by simp [topiaryref12_tag.l0])
            | succ k1 =>
              have H := HA.out
              clear HA
              simp only [topiaryref12_tag.l0] at H
              obtain ⟨ji11, hji11⟩ : ∃ j_ : Int, (wrap64 ((x7_1.length : Int) - 1)) = j_ := ⟨_, rfl⟩
              replace H : (if 0 ≤ (ji11) then (if (ji11) < (x7_1.length : Int) then ((topiaryref11_Skip.f k1 a0 ((rd_T46 x7_1 (ji11)).f2)).bind fun t262 => ((topiaryref12_begins.f a0 t262 (⟨#[62]⟩ : ByteArray)).bind fun t263 => (if t263 = true then (if x7_1.length < 2513169434916 then (some ((x7_1 ++ [(⟨3, t262, wrap64 (t262 + 1), (⟨#[]⟩ : ByteArray), (⟨#[]⟩ : ByteArray)⟩ : S46)]), true)) else (none)) else ((topiaryref12_begins.f a0 t262 (⟨#[47, 62]⟩ : ByteArray)).bind fun t267 => (if t267 = true then (if x7_1.length < 2513169434916 then (some ((x7_1 ++ [(⟨4, t262, wrap64 (t262 + 2), (⟨#[]⟩ : ByteArray), (⟨#[]⟩ : ByteArray)⟩ : S46)]), true)) else (none)) else ((topiaryref12_attr.f k1 a0 ((rd_T46 x7_1 (ji11)).f2)).bind fun bt271 => (if bt271.2.2.2.2.2 = true then (if x7_1.length < 2513169434916 then (topiaryref12_tag.l0 k1 a0 (x7_1 ++ [(⟨bt271.1, bt271.2.1, bt271.2.2.1, bt271.2.2.2.1, bt271.2.2.2.2.1⟩ : S46)])) else (none)) else (some (([] : List (S46)), false))))))))) else (none)) else (none)) = some (r1, r2) := by first | (rw [hji11] at H; exact H) | (simp only [hji11] at H ⊢; exact H)
              have hji11w : (IntKind.i64.wrap ((x7_1.length : Int) - 1)) = ji11 := (i64_w _).trans hji11
              by_cases c12 : 0 ≤ (ji11)
              · rw [if_pos c12] at H
                have c12b0 : decide (0 ≤ (ji11)) = true := decide_eq_true c12
                clear c12
                by_cases c13 : (ji11) < (x7_1.length : Int)
                · rw [if_pos c13] at H
                  have c13b0 : decide ((ji11) < (x7_1.length : Int)) = true := decide_eq_true c13
                  clear c13
                  replace H := Option.bind_eq_some_iff.mp H
                  obtain ⟨t262, A140, H⟩ := H
                  replace H : ((topiaryref12_begins.f a0 t262 (⟨#[62]⟩ : ByteArray)).bind fun t263 => (if t263 = true then (if x7_1.length < 2513169434916 then (some ((x7_1 ++ [(⟨3, t262, wrap64 (t262 + 1), (⟨#[]⟩ : ByteArray), (⟨#[]⟩ : ByteArray)⟩ : S46)]), true)) else (none)) else ((topiaryref12_begins.f a0 t262 (⟨#[47, 62]⟩ : ByteArray)).bind fun t267 => (if t267 = true then (if x7_1.length < 2513169434916 then (some ((x7_1 ++ [(⟨4, t262, wrap64 (t262 + 2), (⟨#[]⟩ : ByteArray), (⟨#[]⟩ : ByteArray)⟩ : S46)]), true)) else (none)) else ((topiaryref12_attr.f k1 a0 ((rd_T46 x7_1 (ji11)).f2)).bind fun bt271 => (if bt271.2.2.2.2.2 = true then (if x7_1.length < 2513169434916 then (topiaryref12_tag.l0 k1 a0 (x7_1 ++ [(⟨bt271.1, bt271.2.1, bt271.2.2.1, bt271.2.2.2.1, bt271.2.2.2.2.1⟩ : S46)])) else (none)) else (some (([] : List (S46)), false)))))))) = some (r1, r2) := H
                  have A14 := Aside0.mk A140
                  clear A140
                  replace H := Option.bind_eq_some_iff.mp H
                  obtain ⟨t263, A150, H⟩ := H
                  replace H : (if t263 = true then (if x7_1.length < 2513169434916 then (some ((x7_1 ++ [(⟨3, t262, wrap64 (t262 + 1), (⟨#[]⟩ : ByteArray), (⟨#[]⟩ : ByteArray)⟩ : S46)]), true)) else (none)) else ((topiaryref12_begins.f a0 t262 (⟨#[47, 62]⟩ : ByteArray)).bind fun t267 => (if t267 = true then (if x7_1.length < 2513169434916 then (some ((x7_1 ++ [(⟨4, t262, wrap64 (t262 + 2), (⟨#[]⟩ : ByteArray), (⟨#[]⟩ : ByteArray)⟩ : S46)]), true)) else (none)) else ((topiaryref12_attr.f k1 a0 ((rd_T46 x7_1 (ji11)).f2)).bind fun bt271 => (if bt271.2.2.2.2.2 = true then (if x7_1.length < 2513169434916 then (topiaryref12_tag.l0 k1 a0 (x7_1 ++ [(⟨bt271.1, bt271.2.1, bt271.2.2.1, bt271.2.2.2.1, bt271.2.2.2.2.1⟩ : S46)])) else (none)) else (some (([] : List (S46)), false))))))) = some (r1, r2) := H
                  have A15 := Aside0.mk A150
                  clear A150
                  by_cases c16 : t263 = true
                  · subst c16
                    have H1 : (if x7_1.length < 2513169434916 then (some ((x7_1 ++ [(⟨3, t262, wrap64 (t262 + 1), (⟨#[]⟩ : ByteArray), (⟨#[]⟩ : ByteArray)⟩ : S46)]), true)) else (none)) = some (r1, r2) := by rw [if_pos rfl] at H; exact H
                    clear H
                    have H := H1
                    clear H1
                    by_cases c17 : x7_1.length < 2513169434916
                    · rw [if_pos c17] at H
                      have LMc17 := Aside0.mk c17
                      clear c17
                      obtain ⟨y264, hy264⟩ : ∃ y_ : List (S46), y_ = (x7_1 ++ [(⟨3, t262, wrap64 (t262 + 1), (⟨#[]⟩ : ByteArray), (⟨#[]⟩ : ByteArray)⟩ : S46)]) := ⟨_, rfl⟩
                      replace H : (some (y264, true)) = some (r1, r2) := by first | (rw [hy264]; with_reducible exact H) | (have H2_ := (Option.bind_some _ _).symm.trans H; rw [hy264]; with_reducible exact H2_) | (have H2_ := (Option.bind_some _ _).symm.trans H; with_reducible exact H2_) | with_reducible exact H | (rw [hy264]; exact H) | exact H
                      have Ny264 := Aside0.mk hy264
                      clear hy264
                      simp only [Option.some.injEq, Prod.mk.injEq] at H
                      obtain ⟨rfl, rfl⟩ := H
                      obtain ⟨Ao18, co18, eo18⟩ := Kd.R_slice HO_7.out
                      subst eo18
                      have p261 : 0 ≤ ((ji11) : Int) := of_decide_eq_true (by first | (with_reducible assumption) | assumption)
                      have q261 : (ji11) < (x7_1.length : Int) := of_decide_eq_true (by first | (with_reducible assumption) | assumption)
                      obtain ⟨ad261, e261, hx261_0, hx261_1, hx261_2, hx261_3, hx261_4⟩ := at_T46 (Kd.R_reads' HO_7.out).2.2 (ji11) p261 q261
                      cases e261
                      replace p261 := eq_true p261
                      replace q261 := eq_true q261
                      go_wp2_with (first | ((with_reducible refine gate_callee (f := 33) rfl ?_); refine goesL_ (some 38) rfl rfl Try.func33 (by kernel_rfl) rfl #[.string a0, .int .i64 ((rd_T46 x7_1 (ji11)).f2)] rfl (by (try simp only [List.map_toArray, List.map_cons, List.map_nil]); first | done | (simp only [hji11]; rfl) | rfl | (simp only [List.length_drop, List.length_take]; rfl)) ?_; (with_reducible refine (topiaryref11_Skip.calls k1 a0 ((rd_T46 x7_1 (ji11)).f2) t262 _ A14.out).mono ?_); rintro e w' ⟨rfl, ⟨nd, rfl⟩⟩; refine ⟨_, rfl, ?_⟩) | ((with_reducible refine gate_callee (f := 74) rfl ?_); refine goesL_ (some 41) rfl rfl Try.func74 (by kernel_rfl) rfl #[.string a0, .int .i64 t262, .string (⟨#[62]⟩ : ByteArray)] rfl (by (try simp only [List.map_toArray, List.map_cons, List.map_nil]); first | done | rfl | (simp only [List.length_drop, List.length_take]; rfl)) ?_; (with_reducible refine (topiaryref12_begins.calls a0 t262 (⟨#[62]⟩ : ByteArray) true _ A15.out).mono ?_); rintro e w' ⟨rfl, ⟨nd, rfl⟩⟩; refine ⟨_, rfl, ?_⟩) | ((with_reducible refine gate_builtin (b := .append) (xs := #[.tmp 42, .tmp 47]) rfl ?_); at_builtin; refine Kd.R_append k46 (w0 := w) w.heap.size rfl (.tmp 42) (.tmp 47) 40 46 (.agg #[(.int .i64 0), (.int .i64 0), (.int .i64 0), (.string ⟨#[]⟩), (.string ⟨#[]⟩)]) 56 rfl Try.underlying40 info46 rfl (by decide) (by omega) (.slice (some ad261) x7_1.length co18) x7_1 (⟨3, t262, wrap64 (t262 + 1), (⟨#[]⟩ : ByteArray), (⟨#[]⟩ : ByteArray)⟩ : S46) [.int .i64 3, .int .i64 t262, .int .i64 (wrap64 (t262 + 1)), .string (⟨#[]⟩ : ByteArray), .string (⟨#[]⟩ : ByteArray)] (fun _ => True) (fun _ => False) rfl rfl ?aP (fun _ hk => hk.elim) ?aF ?aO ?aB ?aS ?aL ?_; (case aP => exact k46_mkM _ _ _ (⟨3, t262, wrap64 (t262 + 1), (⟨#[]⟩ : ByteArray), (⟨#[]⟩ : ByteArray)⟩ : S46)); (case aB => exact (by repeat (first | (with_reducible first | exact HB.out | apply below_alloc | apply pw_below_drewN | apply below_drew1) | exact HB.out))); (case aF => exact (fun _ _ => trivial)); (case aO => exact (by (with_reducible repeat (first | apply Kd.R_alloc | apply Kd.R_drewN | apply Kd.R_drew)); exact HO_7.out)); (case aS => exact (below_size (by repeat (first | (with_reducible first | exact HB.out | apply below_alloc | apply pw_below_drewN | apply below_drew1) | exact HB.out)))); (case aL => have := LMc17.out; omega); intro v265 w19 ho hb hg hat; rw [← Ny264.out] at ho; have n0_ := Aside0.mk (hb); have n1_ := Aside0.mk (ho); clear HB; clear HO_7; have HB := n0_; have HO266 := n1_; clear n0_ n1_; clear ho hb hg hat))
                      go_ret2
                      exact ⟨_, by first | rfl | (simp [errW_none, errW_some] <;> rfl) | (simp only [← hji5, ← hji11]; first | rfl | (simp [errW_none, errW_some] <;> rfl)) | (simp [*, errW_none, errW_some] <;> rfl), by (with_reducible repeat (first | apply Kd.R_alloc | apply Kd.R_drewN | apply Kd.R_drew)); exact HO266.out, by repeat (first | (with_reducible first | exact HB.out | apply below_alloc | apply pw_below_drewN | apply below_drew1) | exact HB.out)⟩
                    · rw [if_neg c17] at H
                      exact absurd H (by simp)
                  · replace c16 := Bool.eq_false_iff.mpr c16
                    subst c16
                    have H1 : ((topiaryref12_begins.f a0 t262 (⟨#[47, 62]⟩ : ByteArray)).bind fun t267 => (if t267 = true then (if x7_1.length < 2513169434916 then (some ((x7_1 ++ [(⟨4, t262, wrap64 (t262 + 2), (⟨#[]⟩ : ByteArray), (⟨#[]⟩ : ByteArray)⟩ : S46)]), true)) else (none)) else ((topiaryref12_attr.f k1 a0 ((rd_T46 x7_1 (ji11)).f2)).bind fun bt271 => (if bt271.2.2.2.2.2 = true then (if x7_1.length < 2513169434916 then (topiaryref12_tag.l0 k1 a0 (x7_1 ++ [(⟨bt271.1, bt271.2.1, bt271.2.2.1, bt271.2.2.2.1, bt271.2.2.2.2.1⟩ : S46)])) else (none)) else (some (([] : List (S46)), false)))))) = some (r1, r2) := by rw [if_neg (show ¬ (false = true) by decide)] at H; exact H
                    clear H
                    have H := H1
                    clear H1
                    replace H := Option.bind_eq_some_iff.mp H
                    obtain ⟨t267, A200, H⟩ := H
                    replace H : (if t267 = true then (if x7_1.length < 2513169434916 then (some ((x7_1 ++ [(⟨4, t262, wrap64 (t262 + 2), (⟨#[]⟩ : ByteArray), (⟨#[]⟩ : ByteArray)⟩ : S46)]), true)) else (none)) else ((topiaryref12_attr.f k1 a0 ((rd_T46 x7_1 (ji11)).f2)).bind fun bt271 => (if bt271.2.2.2.2.2 = true then (if x7_1.length < 2513169434916 then (topiaryref12_tag.l0 k1 a0 (x7_1 ++ [(⟨bt271.1, bt271.2.1, bt271.2.2.1, bt271.2.2.2.1, bt271.2.2.2.2.1⟩ : S46)])) else (none)) else (some (([] : List (S46)), false))))) = some (r1, r2) := H
                    have A20 := Aside0.mk A200
                    clear A200
                    by_cases c21 : t267 = true
                    · subst c21
                      have H1 : (if x7_1.length < 2513169434916 then (some ((x7_1 ++ [(⟨4, t262, wrap64 (t262 + 2), (⟨#[]⟩ : ByteArray), (⟨#[]⟩ : ByteArray)⟩ : S46)]), true)) else (none)) = some (r1, r2) := by rw [if_pos rfl] at H; exact H
                      clear H
                      have H := H1
                      clear H1
                      by_cases c22 : x7_1.length < 2513169434916
                      · rw [if_pos c22] at H
                        have LMc22 := Aside0.mk c22
                        clear c22
                        obtain ⟨y268, hy268⟩ : ∃ y_ : List (S46), y_ = (x7_1 ++ [(⟨4, t262, wrap64 (t262 + 2), (⟨#[]⟩ : ByteArray), (⟨#[]⟩ : ByteArray)⟩ : S46)]) := ⟨_, rfl⟩
                        replace H : (some (y268, true)) = some (r1, r2) := by first | (rw [hy268]; with_reducible exact H) | (have H2_ := (Option.bind_some _ _).symm.trans H; rw [hy268]; with_reducible exact H2_) | (have H2_ := (Option.bind_some _ _).symm.trans H; with_reducible exact H2_) | with_reducible exact H | (rw [hy268]; exact H) | exact H
                        have Ny268 := Aside0.mk hy268
                        clear hy268
                        simp only [Option.some.injEq, Prod.mk.injEq] at H
                        obtain ⟨rfl, rfl⟩ := H
                        obtain ⟨Ao23, co23, eo23⟩ := Kd.R_slice HO_7.out
                        subst eo23
                        have p261 : 0 ≤ ((ji11) : Int) := of_decide_eq_true (by first | (with_reducible assumption) | assumption)
                        have q261 : (ji11) < (x7_1.length : Int) := of_decide_eq_true (by first | (with_reducible assumption) | assumption)
                        obtain ⟨ad261, e261, hx261_0, hx261_1, hx261_2, hx261_3, hx261_4⟩ := at_T46 (Kd.R_reads' HO_7.out).2.2 (ji11) p261 q261
                        cases e261
                        replace p261 := eq_true p261
                        replace q261 := eq_true q261
                        go_wp2_with (first | ((with_reducible refine gate_callee (f := 33) rfl ?_); refine goesL_ (some 38) rfl rfl Try.func33 (by kernel_rfl) rfl #[.string a0, .int .i64 ((rd_T46 x7_1 (ji11)).f2)] rfl (by (try simp only [List.map_toArray, List.map_cons, List.map_nil]); first | done | (simp only [hji11]; rfl) | rfl | (simp only [List.length_drop, List.length_take]; rfl)) ?_; (with_reducible refine (topiaryref11_Skip.calls k1 a0 ((rd_T46 x7_1 (ji11)).f2) t262 _ A14.out).mono ?_); rintro e w' ⟨rfl, ⟨nd, rfl⟩⟩; refine ⟨_, rfl, ?_⟩) | ((with_reducible refine gate_callee (f := 74) rfl ?_); refine goesL_ (some 41) rfl rfl Try.func74 (by kernel_rfl) rfl #[.string a0, .int .i64 t262, .string (⟨#[62]⟩ : ByteArray)] rfl (by (try simp only [List.map_toArray, List.map_cons, List.map_nil]); first | done | rfl | (simp only [List.length_drop, List.length_take]; rfl)) ?_; (with_reducible refine (topiaryref12_begins.calls a0 t262 (⟨#[62]⟩ : ByteArray) false _ A15.out).mono ?_); rintro e w' ⟨rfl, ⟨nd, rfl⟩⟩; refine ⟨_, rfl, ?_⟩) | ((with_reducible refine gate_callee (f := 74) rfl ?_); refine goesL_ (some 51) rfl rfl Try.func74 (by kernel_rfl) rfl #[.string a0, .int .i64 t262, .string (⟨#[47, 62]⟩ : ByteArray)] rfl (by (try simp only [List.map_toArray, List.map_cons, List.map_nil]); first | done | rfl | (simp only [List.length_drop, List.length_take]; rfl)) ?_; (with_reducible refine (topiaryref12_begins.calls a0 t262 (⟨#[47, 62]⟩ : ByteArray) true _ A20.out).mono ?_); rintro e w' ⟨rfl, ⟨nd, rfl⟩⟩; refine ⟨_, rfl, ?_⟩) | ((with_reducible refine gate_builtin (b := .append) (xs := #[.tmp 52, .tmp 57]) rfl ?_); at_builtin; refine Kd.R_append k46 (w0 := w) w.heap.size rfl (.tmp 52) (.tmp 57) 40 46 (.agg #[(.int .i64 0), (.int .i64 0), (.int .i64 0), (.string ⟨#[]⟩), (.string ⟨#[]⟩)]) 56 rfl Try.underlying40 info46 rfl (by decide) (by omega) (.slice (some ad261) x7_1.length co23) x7_1 (⟨4, t262, wrap64 (t262 + 2), (⟨#[]⟩ : ByteArray), (⟨#[]⟩ : ByteArray)⟩ : S46) [.int .i64 4, .int .i64 t262, .int .i64 (wrap64 (t262 + 2)), .string (⟨#[]⟩ : ByteArray), .string (⟨#[]⟩ : ByteArray)] (fun _ => True) (fun _ => False) rfl rfl ?aP (fun _ hk => hk.elim) ?aF ?aO ?aB ?aS ?aL ?_; (case aP => exact k46_mkM _ _ _ (⟨4, t262, wrap64 (t262 + 2), (⟨#[]⟩ : ByteArray), (⟨#[]⟩ : ByteArray)⟩ : S46)); (case aB => exact (by repeat (first | (with_reducible first | exact HB.out | apply below_alloc | apply pw_below_drewN | apply below_drew1) | exact HB.out))); (case aF => exact (fun _ _ => trivial)); (case aO => exact (by (with_reducible repeat (first | apply Kd.R_alloc | apply Kd.R_drewN | apply Kd.R_drew)); exact HO_7.out)); (case aS => exact (below_size (by repeat (first | (with_reducible first | exact HB.out | apply below_alloc | apply pw_below_drewN | apply below_drew1) | exact HB.out)))); (case aL => have := LMc22.out; omega); intro v269 w24 ho hb hg hat; rw [← Ny268.out] at ho; have n0_ := Aside0.mk (hb); have n1_ := Aside0.mk (ho); clear HB; clear HO_7; have HB := n0_; have HO270 := n1_; clear n0_ n1_; clear ho hb hg hat))
                        go_ret2
                        exact ⟨_, by first | rfl | (simp [errW_none, errW_some] <;> rfl) | (simp only [← hji5, ← hji11]; first | rfl | (simp [errW_none, errW_some] <;> rfl)) | (simp [*, errW_none, errW_some] <;> rfl), by (with_reducible repeat (first | apply Kd.R_alloc | apply Kd.R_drewN | apply Kd.R_drew)); exact HO270.out, by repeat (first | (with_reducible first | exact HB.out | apply below_alloc | apply pw_below_drewN | apply below_drew1) | exact HB.out)⟩
                      · rw [if_neg c22] at H
                        exact absurd H (by simp)
                    · replace c21 := Bool.eq_false_iff.mpr c21
                      subst c21
                      have H1 : ((topiaryref12_attr.f k1 a0 ((rd_T46 x7_1 (ji11)).f2)).bind fun bt271 => (if bt271.2.2.2.2.2 = true then (if x7_1.length < 2513169434916 then (topiaryref12_tag.l0 k1 a0 (x7_1 ++ [(⟨bt271.1, bt271.2.1, bt271.2.2.1, bt271.2.2.2.1, bt271.2.2.2.2.1⟩ : S46)])) else (none)) else (some (([] : List (S46)), false)))) = some (r1, r2) := by rw [if_neg (show ¬ (false = true) by decide)] at H; exact H
                      clear H
                      have H := H1
                      clear H1
                      replace H := Option.bind_eq_some_iff.mp H
                      obtain ⟨⟨t271, t272, t273, t274, t275, t276⟩, A250, H⟩ := H
                      replace H : (if t276 = true then (if x7_1.length < 2513169434916 then (topiaryref12_tag.l0 k1 a0 (x7_1 ++ [(⟨t271, t272, t273, t274, t275⟩ : S46)])) else (none)) else (some (([] : List (S46)), false))) = some (r1, r2) := H
                      have A25 := Aside0.mk A250
                      clear A250
                      by_cases c26 : t276 = true
                      · subst c26
                        have H1 : (if x7_1.length < 2513169434916 then (topiaryref12_tag.l0 k1 a0 (x7_1 ++ [(⟨t271, t272, t273, t274, t275⟩ : S46)])) else (none)) = some (r1, r2) := by rw [if_pos rfl] at H; exact H
                        clear H
                        have H := H1
                        clear H1
                        by_cases c27 : x7_1.length < 2513169434916
                        · rw [if_pos c27] at H
                          have LMc27 := Aside0.mk c27
                          clear c27
                          obtain ⟨y278, hy278⟩ : ∃ y_ : List (S46), y_ = (x7_1 ++ [(⟨t271, t272, t273, t274, t275⟩ : S46)]) := ⟨_, rfl⟩
                          replace H : (topiaryref12_tag.l0 k1 a0 y278) = some (r1, r2) := by first | (rw [hy278]; with_reducible exact H) | (have H2_ := (Option.bind_some _ _).symm.trans H; rw [hy278]; with_reducible exact H2_) | (have H2_ := (Option.bind_some _ _).symm.trans H; with_reducible exact H2_) | with_reducible exact H | (rw [hy278]; exact H) | exact H
                          have Ny278 := Aside0.mk hy278
                          clear hy278
                          have H' := Aside0.mk H
                          clear H
                          obtain ⟨Ao28, co28, eo28⟩ := Kd.R_slice HO_7.out
                          subst eo28
                          have p261 : 0 ≤ ((ji11) : Int) := of_decide_eq_true (by first | (with_reducible assumption) | assumption)
                          have q261 : (ji11) < (x7_1.length : Int) := of_decide_eq_true (by first | (with_reducible assumption) | assumption)
                          obtain ⟨ad261, e261, hx261_0, hx261_1, hx261_2, hx261_3, hx261_4⟩ := at_T46 (Kd.R_reads' HO_7.out).2.2 (ji11) p261 q261
                          cases e261
                          replace p261 := eq_true p261
                          replace q261 := eq_true q261
                          go_wp2_with (first | ((with_reducible refine gate_callee (f := 33) rfl ?_); refine goesL_ (some 38) rfl rfl Try.func33 (by kernel_rfl) rfl #[.string a0, .int .i64 ((rd_T46 x7_1 (ji11)).f2)] rfl (by (try simp only [List.map_toArray, List.map_cons, List.map_nil]); first | done | (simp only [hji11]; rfl) | rfl | (simp only [List.length_drop, List.length_take]; rfl)) ?_; (with_reducible refine (topiaryref11_Skip.calls k1 a0 ((rd_T46 x7_1 (ji11)).f2) t262 _ A14.out).mono ?_); rintro e w' ⟨rfl, ⟨nd, rfl⟩⟩; refine ⟨_, rfl, ?_⟩; (try (rw [drewN_self wr]; generalize hq_ : World.drewN wr _ = wr; have n0_ : Aside0 (Kd.R k46 46 wr w.heap.size (fun _ => True) (.slice (some ad261) x7_1.length co28) x7_1) := ⟨by rw [← hq_]; exact (by (with_reducible repeat (first | apply Kd.R_alloc | apply Kd.R_drewN | apply Kd.R_drew)); exact HO_7.out)⟩; have n1_ : Aside0 (Below w.heap.size w wr) := ⟨by rw [← hq_]; exact (by repeat (first | (with_reducible first | exact HB.out | apply below_alloc | apply pw_below_drewN | apply below_drew1) | exact HB.out))⟩; clear HO_7 HB hq_; have HO_7 := n0_; have HB := n1_; clear n0_ n1_))) | ((with_reducible refine gate_callee (f := 74) rfl ?_); refine goesL_ (some 41) rfl rfl Try.func74 (by kernel_rfl) rfl #[.string a0, .int .i64 t262, .string (⟨#[62]⟩ : ByteArray)] rfl (by (try simp only [List.map_toArray, List.map_cons, List.map_nil]); first | done | rfl | (simp only [List.length_drop, List.length_take]; rfl)) ?_; (with_reducible refine (topiaryref12_begins.calls a0 t262 (⟨#[62]⟩ : ByteArray) false _ A15.out).mono ?_); rintro e w' ⟨rfl, ⟨nd, rfl⟩⟩; refine ⟨_, rfl, ?_⟩; (try (rw [drewN_self wr]; generalize hq_ : World.drewN wr _ = wr; have n0_ : Aside0 (Kd.R k46 46 wr w.heap.size (fun _ => True) (.slice (some ad261) x7_1.length co28) x7_1) := ⟨by rw [← hq_]; exact (by (with_reducible repeat (first | apply Kd.R_alloc | apply Kd.R_drewN | apply Kd.R_drew)); exact HO_7.out)⟩; have n1_ : Aside0 (Below w.heap.size w wr) := ⟨by rw [← hq_]; exact (by repeat (first | (with_reducible first | exact HB.out | apply below_alloc | apply pw_below_drewN | apply below_drew1) | exact HB.out))⟩; clear HO_7 HB hq_; have HO_7 := n0_; have HB := n1_; clear n0_ n1_))) | ((with_reducible refine gate_callee (f := 74) rfl ?_); refine goesL_ (some 51) rfl rfl Try.func74 (by kernel_rfl) rfl #[.string a0, .int .i64 t262, .string (⟨#[47, 62]⟩ : ByteArray)] rfl (by (try simp only [List.map_toArray, List.map_cons, List.map_nil]); first | done | rfl | (simp only [List.length_drop, List.length_take]; rfl)) ?_; (with_reducible refine (topiaryref12_begins.calls a0 t262 (⟨#[47, 62]⟩ : ByteArray) false _ A20.out).mono ?_); rintro e w' ⟨rfl, ⟨nd, rfl⟩⟩; refine ⟨_, rfl, ?_⟩; (try (rw [drewN_self wr]; generalize hq_ : World.drewN wr _ = wr; have n0_ : Aside0 (Kd.R k46 46 wr w.heap.size (fun _ => True) (.slice (some ad261) x7_1.length co28) x7_1) := ⟨by rw [← hq_]; exact (by (with_reducible repeat (first | apply Kd.R_alloc | apply Kd.R_drewN | apply Kd.R_drew)); exact HO_7.out)⟩; have n1_ : Aside0 (Below w.heap.size w wr) := ⟨by rw [← hq_]; exact (by repeat (first | (with_reducible first | exact HB.out | apply below_alloc | apply pw_below_drewN | apply below_drew1) | exact HB.out))⟩; clear HO_7 HB hq_; have HO_7 := n0_; have HB := n1_; clear n0_ n1_))) | ((with_reducible refine gate_callee (f := 89) rfl ?_); refine goesL_ (some 62) rfl rfl Try.func89 (by kernel_rfl) rfl #[.string a0, .int .i64 ((rd_T46 x7_1 (ji11)).f2)] rfl (by (try simp only [List.map_toArray, List.map_cons, List.map_nil]); first | done | (simp only [hji11]; rfl) | rfl | (simp only [List.length_drop, List.length_take]; rfl)) ?_; (with_reducible refine (topiaryref12_attr.calls k1 a0 ((rd_T46 x7_1 (ji11)).f2) t271 t272 t273 t274 t275 true _ A25.out).mono ?_); rintro e w29 ⟨rfl, hb⟩; refine ⟨_, rfl, ?_⟩; have n0_ := Aside0.mk (Kd.R_below (by (with_reducible repeat (first | apply Kd.R_alloc | apply Kd.R_drewN | apply Kd.R_drew)); exact HO_7.out) hb); have n1_ := Aside0.mk (below_step (by repeat (first | (with_reducible first | exact HB.out | apply below_alloc | apply pw_below_drewN | apply below_drew1) | exact HB.out)) hb); clear HO_7; clear HB; have HO_7 := n0_; have HB := n1_; clear n0_ n1_; (try clear hb); (try clear hb2); (try clear hk); (try clear hi)) | ((with_reducible refine gate_dst (N := 10) rfl ?_); refine box_event ?hg (N := 10) ?hd (cs := #[.int .i64 0, .int .i64 0, .int .i64 0, .string (⟨#[]⟩ : ByteArray), .string (⟨#[]⟩ : ByteArray)]) (t := 46) ?hr ?_; (case hd => rfl); (case hg => rfl); (case hr => first | (go_simp; done) | (go_simp; rfl)); intro gb277 hg w30 hbox hb; have n0_ := Aside0.mk (Kd.R_below (Kd.R_elderB (by (with_reducible repeat (first | apply Kd.R_alloc | apply Kd.R_drewN | apply Kd.R_drew)); exact HO_7.out) gb277 (Nat.le_of_eq hg.symm)) hb); have n1_ := Aside0.mk (below_step (by repeat (first | (with_reducible first | exact HB.out | apply below_alloc | apply pw_below_drewN | apply below_drew1) | exact HB.out)) hb); have n2_ := Aside0.mk (hbox); have n3_ := Aside0.mk ((by rw [hg]; exact (below_size (by repeat (first | (with_reducible first | exact HB.out | apply below_alloc | apply pw_below_drewN | apply below_drew1) | exact HB.out))) : w.heap.size ≤ gb277)); have n4_ := Aside0.mk ((by rw [hg]; exact (below_size (by repeat (first | (with_reducible first | exact HB.out | apply below_alloc | apply pw_below_drewN | apply below_drew1) | exact HB.out))) : w.heap.size ≤ gb277)); clear HO_7; clear HB; have HO_7 := n0_; have HB := n1_; have BK277 := n2_; have GW277 := n3_; have GE277 := n4_; clear n0_ n1_ n2_ n3_ n4_; clear hb hbox hg; have hcz31_0 : w30.cell? ⟨gb277, 0, none⟩ = some (.int .i64 0) := (blk_cell BK277.out 0).trans rfl; have hcz31_1 : w30.cell? ⟨gb277, 1, none⟩ = some (.int .i64 0) := (blk_cell BK277.out 1).trans rfl; have hcz31_2 : w30.cell? ⟨gb277, 2, none⟩ = some (.int .i64 0) := (blk_cell BK277.out 2).trans rfl; have hcz31_3 : w30.cell? ⟨gb277, 3, none⟩ = some (.string (⟨#[]⟩ : ByteArray)) := (blk_cell BK277.out 3).trans rfl; have hcz31_4 : w30.cell? ⟨gb277, 4, none⟩ = some (.string (⟨#[]⟩ : ByteArray)) := (blk_cell BK277.out 4).trans rfl; have hfz31_0 := blk_frozen BK277.out 0; have hfz31_1 := blk_frozen BK277.out 1; have hfz31_2 := blk_frozen BK277.out 2; have hfz31_3 := blk_frozen BK277.out 3; have hfz31_4 := blk_frozen BK277.out 4) | ((with_reducible refine gate_builtin (b := .append) (xs := #[.tmp 67, .tmp 69]) rfl ?_); at_builtin; refine Kd.R_append k46 (w0 := w) w.heap.size rfl (.tmp 67) (.tmp 69) 40 46 (.agg #[(.int .i64 0), (.int .i64 0), (.int .i64 0), (.string ⟨#[]⟩), (.string ⟨#[]⟩)]) 56 rfl Try.underlying40 info46 rfl (by decide) (by omega) (.slice (some ad261) x7_1.length co28) x7_1 (⟨t271, t272, t273, t274, t275⟩ : S46) [.int .i64 t271, .int .i64 t272, .int .i64 t273, .string t274, .string t275] (fun k_ => k_ ≠ gb277) (fun _ => False) rfl (by first | (go_simp; done) | (go_simp; rfl)) ?aP (fun _ hk => hk.elim) ?aF ?aO ?aB ?aS ?aL ?_; (case aP => exact k46_mkM _ _ _ (⟨t271, t272, t273, t274, t275⟩ : S46)); (case aB => exact (by repeat (first | (with_reducible first | exact HB.out | apply below_alloc | apply pw_below_drewN | apply below_drew1 | refine below_set ?_ GE277.out) | exact HB.out))); (case aF => exact (fun k_ hk => Kd.freshB (g := gb277) (o := .cells #[.int .i64 t271, .int .i64 t272, .int .i64 t273, .string t274, .string t275] 46 (0, 0)) (by (with_reducible repeat (first | refine blk_drewN ?_ _ | refine blk_drew ?_ | refine blk_alloc ?_ _)); refine blk_put (cs := #[.int .i64 t271, .int .i64 t272, .int .i64 t273, .string t274, .string (⟨#[]⟩ : ByteArray)]) ?_ 4 _ rfl; (with_reducible repeat (first | refine blk_drewN ?_ _ | refine blk_drew ?_ | refine blk_alloc ?_ _)); refine blk_put (cs := #[.int .i64 t271, .int .i64 t272, .int .i64 t273, .string (⟨#[]⟩ : ByteArray), .string (⟨#[]⟩ : ByteArray)]) ?_ 3 _ rfl; (with_reducible repeat (first | refine blk_drewN ?_ _ | refine blk_drew ?_ | refine blk_alloc ?_ _)); refine blk_put (cs := #[.int .i64 t271, .int .i64 t272, .int .i64 0, .string (⟨#[]⟩ : ByteArray), .string (⟨#[]⟩ : ByteArray)]) ?_ 2 _ rfl; (with_reducible repeat (first | refine blk_drewN ?_ _ | refine blk_drew ?_ | refine blk_alloc ?_ _)); refine blk_put (cs := #[.int .i64 t271, .int .i64 0, .int .i64 0, .string (⟨#[]⟩ : ByteArray), .string (⟨#[]⟩ : ByteArray)]) ?_ 1 _ rfl; (with_reducible repeat (first | refine blk_drewN ?_ _ | refine blk_drew ?_ | refine blk_alloc ?_ _)); refine blk_put (cs := #[.int .i64 0, .int .i64 0, .int .i64 0, .string (⟨#[]⟩ : ByteArray), .string (⟨#[]⟩ : ByteArray)]) ?_ 0 _ rfl; (with_reducible repeat (first | refine blk_drewN ?_ _ | refine blk_drew ?_ | refine blk_alloc ?_ _)); exact BK277.out) k_ hk)); (case aO => exact (by (with_reducible repeat (first | apply Kd.R_alloc | apply Kd.R_drewN | apply Kd.R_drew)); exact Kd.R_mono (Kd.R_far (p := ⟨gb277, 4, none⟩) (Kd.R_far (p := ⟨gb277, 3, none⟩) (Kd.R_far (p := ⟨gb277, 2, none⟩) (Kd.R_far (p := ⟨gb277, 1, none⟩) (Kd.R_far (p := ⟨gb277, 0, none⟩) (Kd.R_mono HO_7.out (fun k_ hk => (⟨hk, hk.2⟩ : _ ∧ k_ ≠ gb277))) (fun _ hk => hk.2) (.int .i64 t271)) (fun _ hk => hk.2) (.int .i64 t272)) (fun _ hk => hk.2) (.int .i64 t273)) (fun _ hk => hk.2) (.string t274)) (fun _ hk => hk.2) (.string t275)) (fun _ hk => hk.1.2))); (case aS => exact (below_size (by repeat (first | (with_reducible first | exact HB.out | apply below_alloc | apply pw_below_drewN | apply below_drew1 | refine below_set ?_ GE277.out) | exact HB.out)))); (case aL => have := LMc27.out; omega); intro v279 w32 ho hb hg hat; rw [← Ny278.out] at ho; have n0_ := Aside0.mk (blk_grown (g := gb277) (o := .cells #[.int .i64 t271, .int .i64 t272, .int .i64 t273, .string t274, .string t275] 46 (0, 0)) (by (with_reducible repeat (first | refine blk_drewN ?_ _ | refine blk_drew ?_ | refine blk_alloc ?_ _)); refine blk_put (cs := #[.int .i64 t271, .int .i64 t272, .int .i64 t273, .string t274, .string (⟨#[]⟩ : ByteArray)]) ?_ 4 _ rfl; (with_reducible repeat (first | refine blk_drewN ?_ _ | refine blk_drew ?_ | refine blk_alloc ?_ _)); refine blk_put (cs := #[.int .i64 t271, .int .i64 t272, .int .i64 t273, .string (⟨#[]⟩ : ByteArray), .string (⟨#[]⟩ : ByteArray)]) ?_ 3 _ rfl; (with_reducible repeat (first | refine blk_drewN ?_ _ | refine blk_drew ?_ | refine blk_alloc ?_ _)); refine blk_put (cs := #[.int .i64 t271, .int .i64 t272, .int .i64 0, .string (⟨#[]⟩ : ByteArray), .string (⟨#[]⟩ : ByteArray)]) ?_ 2 _ rfl; (with_reducible repeat (first | refine blk_drewN ?_ _ | refine blk_drew ?_ | refine blk_alloc ?_ _)); refine blk_put (cs := #[.int .i64 t271, .int .i64 0, .int .i64 0, .string (⟨#[]⟩ : ByteArray), .string (⟨#[]⟩ : ByteArray)]) ?_ 1 _ rfl; (with_reducible repeat (first | refine blk_drewN ?_ _ | refine blk_drew ?_ | refine blk_alloc ?_ _)); refine blk_put (cs := #[.int .i64 0, .int .i64 0, .int .i64 0, .string (⟨#[]⟩ : ByteArray), .string (⟨#[]⟩ : ByteArray)]) ?_ 0 _ rfl; (with_reducible repeat (first | refine blk_drewN ?_ _ | refine blk_drew ?_ | refine blk_alloc ?_ _)); exact BK277.out) hg (Kd.R_away HO_7.out (fun _ hk => hk.2))); have n1_ := Aside0.mk (hb); have n2_ := Aside0.mk (ho); clear BK277; clear HB; clear HO_7; have BK277 := n0_; have HB := n1_; have HO280 := n2_; clear n0_ n1_ n2_; clear ho hb hg hat))
                          go_roundg k1
                          case measure => have := HK1.out; omega
                          case rel => exact ⟨(y278), H', ⟨by have := HK1.out; omega⟩, ⟨by (with_reducible repeat (first | apply Kd.R_alloc | apply Kd.R_drewN | apply Kd.R_drew)); exact Kd.R_mono HO280.out (fun _ hk => trivial)⟩, ⟨by repeat (first | (with_reducible first | exact HB.out | apply below_alloc | apply pw_below_drewN | apply below_drew1 | refine below_set ?_ GE277.out) | exact HB.out)⟩⟩
                        · rw [if_neg c27] at H
                          exact absurd H (by simp)
                      · replace c26 := Bool.eq_false_iff.mpr c26
                        subst c26
                        have H1 : (some (([] : List (S46)), false)) = some (r1, r2) := by rw [if_neg (show ¬ (false = true) by decide)] at H; exact H
                        clear H
                        have H := H1
                        clear H1
                        simp only [Option.some.injEq, Prod.mk.injEq] at H
                        obtain ⟨rfl, rfl⟩ := H
                        obtain ⟨Ao33, co33, eo33⟩ := Kd.R_slice HO_7.out
                        subst eo33
                        have p261 : 0 ≤ ((ji11) : Int) := of_decide_eq_true (by first | (with_reducible assumption) | assumption)
                        have q261 : (ji11) < (x7_1.length : Int) := of_decide_eq_true (by first | (with_reducible assumption) | assumption)
                        obtain ⟨ad261, e261, hx261_0, hx261_1, hx261_2, hx261_3, hx261_4⟩ := at_T46 (Kd.R_reads' HO_7.out).2.2 (ji11) p261 q261
                        cases e261
                        replace p261 := eq_true p261
                        replace q261 := eq_true q261
                        go_wp2_with (first | ((with_reducible refine gate_callee (f := 33) rfl ?_); refine goesL_ (some 38) rfl rfl Try.func33 (by kernel_rfl) rfl #[.string a0, .int .i64 ((rd_T46 x7_1 (ji11)).f2)] rfl (by (try simp only [List.map_toArray, List.map_cons, List.map_nil]); first | done | (simp only [hji11]; rfl) | rfl | (simp only [List.length_drop, List.length_take]; rfl)) ?_; (with_reducible refine (topiaryref11_Skip.calls k1 a0 ((rd_T46 x7_1 (ji11)).f2) t262 _ A14.out).mono ?_); rintro e w' ⟨rfl, ⟨nd, rfl⟩⟩; refine ⟨_, rfl, ?_⟩; (try (rw [drewN_self wr]; generalize hq_ : World.drewN wr _ = wr; have n0_ : Aside0 (Kd.R k46 46 wr w.heap.size (fun _ => True) (.slice (some ad261) x7_1.length co33) x7_1) := ⟨by rw [← hq_]; exact (by (with_reducible repeat (first | apply Kd.R_alloc | apply Kd.R_drewN | apply Kd.R_drew)); exact HO_7.out)⟩; have n1_ : Aside0 (Below w.heap.size w wr) := ⟨by rw [← hq_]; exact (by repeat (first | (with_reducible first | exact HB.out | apply below_alloc | apply pw_below_drewN | apply below_drew1) | exact HB.out))⟩; clear HO_7 HB hq_; have HO_7 := n0_; have HB := n1_; clear n0_ n1_))) | ((with_reducible refine gate_callee (f := 74) rfl ?_); refine goesL_ (some 41) rfl rfl Try.func74 (by kernel_rfl) rfl #[.string a0, .int .i64 t262, .string (⟨#[62]⟩ : ByteArray)] rfl (by (try simp only [List.map_toArray, List.map_cons, List.map_nil]); first | done | rfl | (simp only [List.length_drop, List.length_take]; rfl)) ?_; (with_reducible refine (topiaryref12_begins.calls a0 t262 (⟨#[62]⟩ : ByteArray) false _ A15.out).mono ?_); rintro e w' ⟨rfl, ⟨nd, rfl⟩⟩; refine ⟨_, rfl, ?_⟩; (try (rw [drewN_self wr]; generalize hq_ : World.drewN wr _ = wr; have n0_ : Aside0 (Kd.R k46 46 wr w.heap.size (fun _ => True) (.slice (some ad261) x7_1.length co33) x7_1) := ⟨by rw [← hq_]; exact (by (with_reducible repeat (first | apply Kd.R_alloc | apply Kd.R_drewN | apply Kd.R_drew)); exact HO_7.out)⟩; have n1_ : Aside0 (Below w.heap.size w wr) := ⟨by rw [← hq_]; exact (by repeat (first | (with_reducible first | exact HB.out | apply below_alloc | apply pw_below_drewN | apply below_drew1) | exact HB.out))⟩; clear HO_7 HB hq_; have HO_7 := n0_; have HB := n1_; clear n0_ n1_))) | ((with_reducible refine gate_callee (f := 74) rfl ?_); refine goesL_ (some 51) rfl rfl Try.func74 (by kernel_rfl) rfl #[.string a0, .int .i64 t262, .string (⟨#[47, 62]⟩ : ByteArray)] rfl (by (try simp only [List.map_toArray, List.map_cons, List.map_nil]); first | done | rfl | (simp only [List.length_drop, List.length_take]; rfl)) ?_; (with_reducible refine (topiaryref12_begins.calls a0 t262 (⟨#[47, 62]⟩ : ByteArray) false _ A20.out).mono ?_); rintro e w' ⟨rfl, ⟨nd, rfl⟩⟩; refine ⟨_, rfl, ?_⟩; (try (rw [drewN_self wr]; generalize hq_ : World.drewN wr _ = wr; have n0_ : Aside0 (Kd.R k46 46 wr w.heap.size (fun _ => True) (.slice (some ad261) x7_1.length co33) x7_1) := ⟨by rw [← hq_]; exact (by (with_reducible repeat (first | apply Kd.R_alloc | apply Kd.R_drewN | apply Kd.R_drew)); exact HO_7.out)⟩; have n1_ : Aside0 (Below w.heap.size w wr) := ⟨by rw [← hq_]; exact (by repeat (first | (with_reducible first | exact HB.out | apply below_alloc | apply pw_below_drewN | apply below_drew1) | exact HB.out))⟩; clear HO_7 HB hq_; have HO_7 := n0_; have HB := n1_; clear n0_ n1_))) | ((with_reducible refine gate_callee (f := 89) rfl ?_); refine goesL_ (some 62) rfl rfl Try.func89 (by kernel_rfl) rfl #[.string a0, .int .i64 ((rd_T46 x7_1 (ji11)).f2)] rfl (by (try simp only [List.map_toArray, List.map_cons, List.map_nil]); first | done | (simp only [hji11]; rfl) | rfl | (simp only [List.length_drop, List.length_take]; rfl)) ?_; (with_reducible refine (topiaryref12_attr.calls k1 a0 ((rd_T46 x7_1 (ji11)).f2) t271 t272 t273 t274 t275 false _ A25.out).mono ?_); rintro e w34 ⟨rfl, hb⟩; refine ⟨_, rfl, ?_⟩; have n0_ := Aside0.mk (Kd.R_below (by (with_reducible repeat (first | apply Kd.R_alloc | apply Kd.R_drewN | apply Kd.R_drew)); exact HO_7.out) hb); have n1_ := Aside0.mk (below_step (by repeat (first | (with_reducible first | exact HB.out | apply below_alloc | apply pw_below_drewN | apply below_drew1) | exact HB.out)) hb); clear HO_7; clear HB; have HO_7 := n0_; have HB := n1_; clear n0_ n1_; (try clear hb); (try clear hb2); (try clear hk); (try clear hi)) | ((with_reducible refine gate_dst (N := 10) rfl ?_); refine box_event ?hg (N := 10) ?hd (cs := #[.int .i64 0, .int .i64 0, .int .i64 0, .string (⟨#[]⟩ : ByteArray), .string (⟨#[]⟩ : ByteArray)]) (t := 46) ?hr ?_; (case hd => rfl); (case hg => rfl); (case hr => first | (go_simp; done) | (go_simp; rfl)); intro gb277 hg w35 hbox hb; have n0_ := Aside0.mk (Kd.R_below (Kd.R_elderB (by (with_reducible repeat (first | apply Kd.R_alloc | apply Kd.R_drewN | apply Kd.R_drew)); exact HO_7.out) gb277 (Nat.le_of_eq hg.symm)) hb); have n1_ := Aside0.mk (below_step (by repeat (first | (with_reducible first | exact HB.out | apply below_alloc | apply pw_below_drewN | apply below_drew1) | exact HB.out)) hb); have n2_ := Aside0.mk (hbox); have n3_ := Aside0.mk ((by rw [hg]; exact (below_size (by repeat (first | (with_reducible first | exact HB.out | apply below_alloc | apply pw_below_drewN | apply below_drew1) | exact HB.out))) : w.heap.size ≤ gb277)); have n4_ := Aside0.mk ((by rw [hg]; exact (below_size (by repeat (first | (with_reducible first | exact HB.out | apply below_alloc | apply pw_below_drewN | apply below_drew1) | exact HB.out))) : w.heap.size ≤ gb277)); clear HO_7; clear HB; have HO_7 := n0_; have HB := n1_; have BK277 := n2_; have GW277 := n3_; have GE277 := n4_; clear n0_ n1_ n2_ n3_ n4_; clear hb hbox hg; have hcz36_0 : w35.cell? ⟨gb277, 0, none⟩ = some (.int .i64 0) := (blk_cell BK277.out 0).trans rfl; have hcz36_1 : w35.cell? ⟨gb277, 1, none⟩ = some (.int .i64 0) := (blk_cell BK277.out 1).trans rfl; have hcz36_2 : w35.cell? ⟨gb277, 2, none⟩ = some (.int .i64 0) := (blk_cell BK277.out 2).trans rfl; have hcz36_3 : w35.cell? ⟨gb277, 3, none⟩ = some (.string (⟨#[]⟩ : ByteArray)) := (blk_cell BK277.out 3).trans rfl; have hcz36_4 : w35.cell? ⟨gb277, 4, none⟩ = some (.string (⟨#[]⟩ : ByteArray)) := (blk_cell BK277.out 4).trans rfl; have hfz36_0 := blk_frozen BK277.out 0; have hfz36_1 := blk_frozen BK277.out 1; have hfz36_2 := blk_frozen BK277.out 2; have hfz36_3 := blk_frozen BK277.out 3; have hfz36_4 := blk_frozen BK277.out 4))
                        go_ret2
                        exact ⟨_, by first | rfl | (simp [errW_none, errW_some] <;> rfl) | (simp only [← hji5, ← hji11]; first | rfl | (simp [errW_none, errW_some] <;> rfl)) | (simp [*, errW_none, errW_some] <;> rfl), by first | exact Kd.R_nil _ _ _ _ _ | exact Kd.N_nil _ _ _ _ _ | exact Kd.V_nil _ _ _ _ _ | exact Kd.Q_nil _ _ _ _ _ | exact Kd.S_nil _ _ _ _ _, by repeat (first | (with_reducible first | exact HB.out | apply below_alloc | apply pw_below_drewN | apply below_drew1 | refine below_set ?_ GE277.out) | exact HB.out)⟩
                · rw [if_neg c13] at H
                  exact absurd H (by simp)
              · rw [if_neg c12] at H
                exact absurd H (by simp)
        · rw [if_neg c8] at H
          exact absurd H (by simp)
      · rw [if_neg c7] at H
        exact absurd H (by simp)
    · rw [if_neg c6] at H
      exact absurd H (by simp)
def topiaryref12_piece.f (k : Nat) (a0 : ByteArray) (a1 : Int) : Option ((List (S46)) × Bool) := (topiaryref12_begins.f a0 a1 (⟨#[60, 33, 45, 45]⟩ : ByteArray)).bind fun t281 => (if t281 = true then ((topiaryref12_find.f k a0 (wrap64 (a1 + 4)) (⟨#[45, 45]⟩ : ByteArray)).bind fun t282 => (if t282 < 0 then (some (([] : List (S46)), false)) else ((topiaryref12_begins.f a0 t282 (⟨#[45, 45, 62]⟩ : ByteArray)).bind fun t283 => (if t283 = true then (if 0 ≤ (wrap64 (a1 + 4)) then (if (wrap64 (a1 + 4)) ≤ t282 then (if t282 ≤ (a0.size : Int) then (some ((([(⟨7, a1, wrap64 (t282 + 3), (⟨#[]⟩ : ByteArray), a0.extract ((wrap64 (a1 + 4)) : Int).toNat (t282 : Int).toNat⟩ : S46)] : List (S46))), true)) else (none)) else (none)) else (none)) else (some (([] : List (S46)), false)))))) else ((topiaryref12_begins.f a0 a1 (⟨#[60, 33, 91, 67, 68, 65, 84, 65, 91]⟩ : ByteArray)).bind fun t287 => (if t287 = true then ((topiaryref12_find.f k a0 (wrap64 (a1 + 9)) (⟨#[93, 93, 62]⟩ : ByteArray)).bind fun t288 => (if t288 < 0 then (some (([] : List (S46)), false)) else (if 0 ≤ (wrap64 (a1 + 9)) then (if (wrap64 (a1 + 9)) ≤ t288 then (if t288 ≤ (a0.size : Int) then (some ((([(⟨6, a1, wrap64 (t288 + 3), (⟨#[]⟩ : ByteArray), a0.extract ((wrap64 (a1 + 9)) : Int).toNat (t288 : Int).toNat⟩ : S46)] : List (S46))), true)) else (none)) else (none)) else (none)))) else ((topiaryref12_begins.f a0 a1 (⟨#[60, 47]⟩ : ByteArray)).bind fun t292 => (if t292 = true then ((topiaryref11_NameEnd.f k a0 (wrap64 (a1 + 2))).bind fun t293 => ((topiaryref11_Skip.f k a0 t293).bind fun t294 => (if t293 = (wrap64 (a1 + 2)) then (some (([] : List (S46)), false)) else ((topiaryref12_begins.f a0 t294 (⟨#[62]⟩ : ByteArray)).bind fun t295 => (if t295 = true then (if 0 ≤ (wrap64 (a1 + 2)) then (if (wrap64 (a1 + 2)) ≤ t293 then (if t293 ≤ (a0.size : Int) then (some ((([(⟨5, a1, wrap64 (t294 + 1), a0.extract ((wrap64 (a1 + 2)) : Int).toNat (t293 : Int).toNat, (⟨#[]⟩ : ByteArray)⟩ : S46)] : List (S46))), true)) else (none)) else (none)) else (none)) else (some (([] : List (S46)), false))))))) else ((topiaryref12_begins.f a0 a1 (⟨#[60]⟩ : ByteArray)).bind fun t299 => (if t299 = true then ((topiaryref12_tag.f k a0 a1).bind fun bt300 => (some (bt300.1, bt300.2))) else ((topiaryref12_find.f k a0 a1 (⟨#[60]⟩ : ByteArray)).bind fun t304 => (if t304 < 0 then (if 0 ≤ a1 then (if a1 ≤ (a0.size : Int) then (if (a0.size : Int) ≤ (a0.size : Int) then ((topiaryref12_decoded.f k (a0.extract (a1 : Int).toNat ((a0.size : Int) : Int).toNat)).bind fun bt305 => (some ((([(⟨6, a1, (a0.size : Int), (⟨#[]⟩ : ByteArray), bt305.1⟩ : S46)] : List (S46))), bt305.2))) else (none)) else (none)) else (none)) else (if 0 ≤ a1 then (if a1 ≤ t304 then (if t304 ≤ (a0.size : Int) then ((topiaryref12_decoded.f k (a0.extract (a1 : Int).toNat (t304 : Int).toNat)).bind fun bt310 => (some ((([(⟨6, a1, t304, (⟨#[]⟩ : ByteArray), bt310.1⟩ : S46)] : List (S46))), bt310.2))) else (none)) else (none)) else (none)))))))))))
theorem topiaryref12_piece.mono : ∀ a0 a1 k, LeO (topiaryref12_piece.f k a0 a1) (topiaryref12_piece.f (k + 1) a0 a1) := by
  intro a0 a1 k
  unfold topiaryref12_piece.f
  repeat' first
      | (with_reducible exact topiaryref11_NameEnd.mono _ _ _)
      | (with_reducible exact topiaryref11_Skip.mono _ _ _)
      | (with_reducible exact topiaryref12_decoded.mono _ _)
      | (with_reducible exact topiaryref12_find.mono _ _ _ _)
      | (with_reducible exact topiaryref12_tag.mono _ _ _)
      | (with_reducible exact LeO.refl _)
      | (with_reducible exact LeO.none _)
      | (with_reducible refine LeO.ite ?_ ?_)
      | (with_reducible refine LeO.bind ?_ (fun _ => ?_))
      | exact topiaryref11_NameEnd.mono _ _ _
      | exact topiaryref11_Skip.mono _ _ _
      | exact topiaryref12_decoded.mono _ _
      | exact topiaryref12_find.mono _ _ _ _
      | exact topiaryref12_tag.mono _ _ _
      | exact LeO.none _
      | refine LeO.ite ?_ ?_
      | refine LeO.bind ?_ (fun _ => ?_)
set_option maxHeartbeats 8000000 in
set_option maxRecDepth 100000 in
theorem topiaryref12_piece.calls (k : Nat) (a0 : ByteArray) (a1 : Int) (r1 : List (S46)) (r2 : Bool) (w : World) (h : topiaryref12_piece.f k a0 a1 = some (r1, r2)) :
    Calls Try.prog 61 #[.string a0, .int .i64 a1] w fun e w' => ∃ v0_ : Value, e = .returned (.tuple #[v0_, .bool r2]) ∧ Kd.R k46 46 w' w.heap.size (fun _ => True) v0_ r1 ∧ Below w.heap.size w w' := by
  have hu46 := Try.underlying46
  have HB := Aside0.mk (Below.refl w.heap.size w)
  have H : ((topiaryref12_begins.f a0 a1 (⟨#[60, 33, 45, 45]⟩ : ByteArray)).bind fun t281 => (if t281 = true then ((topiaryref12_find.f k a0 (wrap64 (a1 + 4)) (⟨#[45, 45]⟩ : ByteArray)).bind fun t282 => (if t282 < 0 then (some (([] : List (S46)), false)) else ((topiaryref12_begins.f a0 t282 (⟨#[45, 45, 62]⟩ : ByteArray)).bind fun t283 => (if t283 = true then (if 0 ≤ (wrap64 (a1 + 4)) then (if (wrap64 (a1 + 4)) ≤ t282 then (if t282 ≤ (a0.size : Int) then (some ((([(⟨7, a1, wrap64 (t282 + 3), (⟨#[]⟩ : ByteArray), a0.extract ((wrap64 (a1 + 4)) : Int).toNat (t282 : Int).toNat⟩ : S46)] : List (S46))), true)) else (none)) else (none)) else (none)) else (some (([] : List (S46)), false)))))) else ((topiaryref12_begins.f a0 a1 (⟨#[60, 33, 91, 67, 68, 65, 84, 65, 91]⟩ : ByteArray)).bind fun t287 => (if t287 = true then ((topiaryref12_find.f k a0 (wrap64 (a1 + 9)) (⟨#[93, 93, 62]⟩ : ByteArray)).bind fun t288 => (if t288 < 0 then (some (([] : List (S46)), false)) else (if 0 ≤ (wrap64 (a1 + 9)) then (if (wrap64 (a1 + 9)) ≤ t288 then (if t288 ≤ (a0.size : Int) then (some ((([(⟨6, a1, wrap64 (t288 + 3), (⟨#[]⟩ : ByteArray), a0.extract ((wrap64 (a1 + 9)) : Int).toNat (t288 : Int).toNat⟩ : S46)] : List (S46))), true)) else (none)) else (none)) else (none)))) else ((topiaryref12_begins.f a0 a1 (⟨#[60, 47]⟩ : ByteArray)).bind fun t292 => (if t292 = true then ((topiaryref11_NameEnd.f k a0 (wrap64 (a1 + 2))).bind fun t293 => ((topiaryref11_Skip.f k a0 t293).bind fun t294 => (if t293 = (wrap64 (a1 + 2)) then (some (([] : List (S46)), false)) else ((topiaryref12_begins.f a0 t294 (⟨#[62]⟩ : ByteArray)).bind fun t295 => (if t295 = true then (if 0 ≤ (wrap64 (a1 + 2)) then (if (wrap64 (a1 + 2)) ≤ t293 then (if t293 ≤ (a0.size : Int) then (some ((([(⟨5, a1, wrap64 (t294 + 1), a0.extract ((wrap64 (a1 + 2)) : Int).toNat (t293 : Int).toNat, (⟨#[]⟩ : ByteArray)⟩ : S46)] : List (S46))), true)) else (none)) else (none)) else (none)) else (some (([] : List (S46)), false))))))) else ((topiaryref12_begins.f a0 a1 (⟨#[60]⟩ : ByteArray)).bind fun t299 => (if t299 = true then ((topiaryref12_tag.f k a0 a1).bind fun bt300 => (some (bt300.1, bt300.2))) else ((topiaryref12_find.f k a0 a1 (⟨#[60]⟩ : ByteArray)).bind fun t304 => (if t304 < 0 then (if 0 ≤ a1 then (if a1 ≤ (a0.size : Int) then (if (a0.size : Int) ≤ (a0.size : Int) then ((topiaryref12_decoded.f k (a0.extract (a1 : Int).toNat ((a0.size : Int) : Int).toNat)).bind fun bt305 => (some ((([(⟨6, a1, (a0.size : Int), (⟨#[]⟩ : ByteArray), bt305.1⟩ : S46)] : List (S46))), bt305.2))) else (none)) else (none)) else (none)) else (if 0 ≤ a1 then (if a1 ≤ t304 then (if t304 ≤ (a0.size : Int) then ((topiaryref12_decoded.f k (a0.extract (a1 : Int).toNat (t304 : Int).toNat)).bind fun bt310 => (some ((([(⟨6, a1, t304, (⟨#[]⟩ : ByteArray), bt310.1⟩ : S46)] : List (S46))), bt310.2))) else (none)) else (none)) else (none)))))))))))) = some (r1, r2) := h
  clear h
  replace H := Option.bind_eq_some_iff.mp H
  obtain ⟨t281, A30, H⟩ := H
  replace H : (if t281 = true then ((topiaryref12_find.f k a0 (wrap64 (a1 + 4)) (⟨#[45, 45]⟩ : ByteArray)).bind fun t282 => (if t282 < 0 then (some (([] : List (S46)), false)) else ((topiaryref12_begins.f a0 t282 (⟨#[45, 45, 62]⟩ : ByteArray)).bind fun t283 => (if t283 = true then (if 0 ≤ (wrap64 (a1 + 4)) then (if (wrap64 (a1 + 4)) ≤ t282 then (if t282 ≤ (a0.size : Int) then (some ((([(⟨7, a1, wrap64 (t282 + 3), (⟨#[]⟩ : ByteArray), a0.extract ((wrap64 (a1 + 4)) : Int).toNat (t282 : Int).toNat⟩ : S46)] : List (S46))), true)) else (none)) else (none)) else (none)) else (some (([] : List (S46)), false)))))) else ((topiaryref12_begins.f a0 a1 (⟨#[60, 33, 91, 67, 68, 65, 84, 65, 91]⟩ : ByteArray)).bind fun t287 => (if t287 = true then ((topiaryref12_find.f k a0 (wrap64 (a1 + 9)) (⟨#[93, 93, 62]⟩ : ByteArray)).bind fun t288 => (if t288 < 0 then (some (([] : List (S46)), false)) else (if 0 ≤ (wrap64 (a1 + 9)) then (if (wrap64 (a1 + 9)) ≤ t288 then (if t288 ≤ (a0.size : Int) then (some ((([(⟨6, a1, wrap64 (t288 + 3), (⟨#[]⟩ : ByteArray), a0.extract ((wrap64 (a1 + 9)) : Int).toNat (t288 : Int).toNat⟩ : S46)] : List (S46))), true)) else (none)) else (none)) else (none)))) else ((topiaryref12_begins.f a0 a1 (⟨#[60, 47]⟩ : ByteArray)).bind fun t292 => (if t292 = true then ((topiaryref11_NameEnd.f k a0 (wrap64 (a1 + 2))).bind fun t293 => ((topiaryref11_Skip.f k a0 t293).bind fun t294 => (if t293 = (wrap64 (a1 + 2)) then (some (([] : List (S46)), false)) else ((topiaryref12_begins.f a0 t294 (⟨#[62]⟩ : ByteArray)).bind fun t295 => (if t295 = true then (if 0 ≤ (wrap64 (a1 + 2)) then (if (wrap64 (a1 + 2)) ≤ t293 then (if t293 ≤ (a0.size : Int) then (some ((([(⟨5, a1, wrap64 (t294 + 1), a0.extract ((wrap64 (a1 + 2)) : Int).toNat (t293 : Int).toNat, (⟨#[]⟩ : ByteArray)⟩ : S46)] : List (S46))), true)) else (none)) else (none)) else (none)) else (some (([] : List (S46)), false))))))) else ((topiaryref12_begins.f a0 a1 (⟨#[60]⟩ : ByteArray)).bind fun t299 => (if t299 = true then ((topiaryref12_tag.f k a0 a1).bind fun bt300 => (some (bt300.1, bt300.2))) else ((topiaryref12_find.f k a0 a1 (⟨#[60]⟩ : ByteArray)).bind fun t304 => (if t304 < 0 then (if 0 ≤ a1 then (if a1 ≤ (a0.size : Int) then (if (a0.size : Int) ≤ (a0.size : Int) then ((topiaryref12_decoded.f k (a0.extract (a1 : Int).toNat ((a0.size : Int) : Int).toNat)).bind fun bt305 => (some ((([(⟨6, a1, (a0.size : Int), (⟨#[]⟩ : ByteArray), bt305.1⟩ : S46)] : List (S46))), bt305.2))) else (none)) else (none)) else (none)) else (if 0 ≤ a1 then (if a1 ≤ t304 then (if t304 ≤ (a0.size : Int) then ((topiaryref12_decoded.f k (a0.extract (a1 : Int).toNat (t304 : Int).toNat)).bind fun bt310 => (some ((([(⟨6, a1, t304, (⟨#[]⟩ : ByteArray), bt310.1⟩ : S46)] : List (S46))), bt310.2))) else (none)) else (none)) else (none))))))))))) = some (r1, r2) := H
  have A3 := Aside0.mk A30
  clear A30
  by_cases c4 : t281 = true
  · subst c4
    have H1 : ((topiaryref12_find.f k a0 (wrap64 (a1 + 4)) (⟨#[45, 45]⟩ : ByteArray)).bind fun t282 => (if t282 < 0 then (some (([] : List (S46)), false)) else ((topiaryref12_begins.f a0 t282 (⟨#[45, 45, 62]⟩ : ByteArray)).bind fun t283 => (if t283 = true then (if 0 ≤ (wrap64 (a1 + 4)) then (if (wrap64 (a1 + 4)) ≤ t282 then (if t282 ≤ (a0.size : Int) then (some ((([(⟨7, a1, wrap64 (t282 + 3), (⟨#[]⟩ : ByteArray), a0.extract ((wrap64 (a1 + 4)) : Int).toNat (t282 : Int).toNat⟩ : S46)] : List (S46))), true)) else (none)) else (none)) else (none)) else (some (([] : List (S46)), false)))))) = some (r1, r2) := by rw [if_pos rfl] at H; exact H
    clear H
    have H := H1
    clear H1
    replace H := Option.bind_eq_some_iff.mp H
    obtain ⟨t282, A50, H⟩ := H
    replace H : (if t282 < 0 then (some (([] : List (S46)), false)) else ((topiaryref12_begins.f a0 t282 (⟨#[45, 45, 62]⟩ : ByteArray)).bind fun t283 => (if t283 = true then (if 0 ≤ (wrap64 (a1 + 4)) then (if (wrap64 (a1 + 4)) ≤ t282 then (if t282 ≤ (a0.size : Int) then (some ((([(⟨7, a1, wrap64 (t282 + 3), (⟨#[]⟩ : ByteArray), a0.extract ((wrap64 (a1 + 4)) : Int).toNat (t282 : Int).toNat⟩ : S46)] : List (S46))), true)) else (none)) else (none)) else (none)) else (some (([] : List (S46)), false))))) = some (r1, r2) := H
    have A5 := Aside0.mk A50
    clear A50
    by_cases c6 : t282 < 0
    · rw [if_pos c6] at H
      have c6b0 : decide (t282 < 0) = true := decide_eq_true c6
      clear c6
      simp only [Option.some.injEq, Prod.mk.injEq] at H
      obtain ⟨rfl, rfl⟩ := H
      go_enter Try.func61, Try.ntmps61
      go_wp2_with (first | ((with_reducible refine gate_callee (f := 74) rfl ?_); refine goesL_ (some 15) rfl rfl Try.func74 (by kernel_rfl) rfl #[.string a0, .int .i64 a1, .string (⟨#[60, 33, 45, 45]⟩ : ByteArray)] rfl (by (try simp only [List.map_toArray, List.map_cons, List.map_nil]); first | done | rfl | (simp only [List.length_drop, List.length_take]; rfl)) ?_; (with_reducible refine (topiaryref12_begins.calls a0 a1 (⟨#[60, 33, 45, 45]⟩ : ByteArray) true _ A3.out).mono ?_); rintro e w' ⟨rfl, ⟨nd, rfl⟩⟩; refine ⟨_, rfl, ?_⟩) | ((with_reducible refine gate_callee (f := 75) rfl ?_); refine goesL_ (some 19) rfl rfl Try.func75 (by kernel_rfl) rfl #[.string a0, .int .i64 (wrap64 (a1 + 4)), .string (⟨#[45, 45]⟩ : ByteArray)] rfl (by (try simp only [List.map_toArray, List.map_cons, List.map_nil]); first | done | rfl | (simp only [List.length_drop, List.length_take]; rfl)) ?_; (with_reducible refine (topiaryref12_find.calls k a0 (wrap64 (a1 + 4)) (⟨#[45, 45]⟩ : ByteArray) t282 _ A5.out).mono ?_); rintro e w' ⟨rfl, ⟨nd, rfl⟩⟩; refine ⟨_, rfl, ?_⟩))
      go_ret2
      exact ⟨_, by first | rfl | (simp [errW_none, errW_some] <;> rfl) | (simp [*, errW_none, errW_some] <;> rfl), by first | exact Kd.R_nil _ _ _ _ _ | exact Kd.N_nil _ _ _ _ _ | exact Kd.V_nil _ _ _ _ _ | exact Kd.Q_nil _ _ _ _ _ | exact Kd.S_nil _ _ _ _ _, by repeat (first | (with_reducible first | exact HB.out | apply below_alloc | apply pw_below_drewN | apply below_drew1) | exact HB.out)⟩
    · rw [if_neg c6] at H
      have c6b0 : decide (t282 < 0) = false := decide_eq_false c6
      clear c6
      replace H := Option.bind_eq_some_iff.mp H
      obtain ⟨t283, A70, H⟩ := H
      replace H : (if t283 = true then (if 0 ≤ (wrap64 (a1 + 4)) then (if (wrap64 (a1 + 4)) ≤ t282 then (if t282 ≤ (a0.size : Int) then (some ((([(⟨7, a1, wrap64 (t282 + 3), (⟨#[]⟩ : ByteArray), a0.extract ((wrap64 (a1 + 4)) : Int).toNat (t282 : Int).toNat⟩ : S46)] : List (S46))), true)) else (none)) else (none)) else (none)) else (some (([] : List (S46)), false))) = some (r1, r2) := H
      have A7 := Aside0.mk A70
      clear A70
      by_cases c8 : t283 = true
      · subst c8
        have H1 : (if 0 ≤ (wrap64 (a1 + 4)) then (if (wrap64 (a1 + 4)) ≤ t282 then (if t282 ≤ (a0.size : Int) then (some ((([(⟨7, a1, wrap64 (t282 + 3), (⟨#[]⟩ : ByteArray), a0.extract ((wrap64 (a1 + 4)) : Int).toNat (t282 : Int).toNat⟩ : S46)] : List (S46))), true)) else (none)) else (none)) else (none)) = some (r1, r2) := by rw [if_pos rfl] at H; exact H
        clear H
        have H := H1
        clear H1
        obtain ⟨ji9, hji9⟩ : ∃ j_ : Int, (wrap64 (a1 + 4)) = j_ := ⟨_, rfl⟩
        replace H : (if 0 ≤ (ji9) then (if (ji9) ≤ t282 then (if t282 ≤ (a0.size : Int) then (some ((([(⟨7, a1, wrap64 (t282 + 3), (⟨#[]⟩ : ByteArray), a0.extract ((ji9) : Int).toNat (t282 : Int).toNat⟩ : S46)] : List (S46))), true)) else (none)) else (none)) else (none)) = some (r1, r2) := by first | (rw [hji9] at H; exact H) | (simp only [hji9] at H ⊢; exact H)
        (try rw [hji9] at A3)
        (try rw [hji9] at A5)
        (try rw [hji9] at A7)
        have hji9w : (IntKind.i64.wrap (a1 + 4)) = ji9 := (i64_w _).trans hji9
        by_cases c10 : 0 ≤ (ji9)
        · rw [if_pos c10] at H
          have c10b0 := eq_true c10
          have c10b1 : decide (0 ≤ (ji9)) = true := decide_eq_true c10
          clear c10
          by_cases c11 : (ji9) ≤ t282
          · rw [if_pos c11] at H
            have c11b0 := eq_true c11
            have c11b1 : decide ((ji9) ≤ t282) = true := decide_eq_true c11
            clear c11
            by_cases c12 : t282 ≤ (a0.size : Int)
            · rw [if_pos c12] at H
              have c12b0 := eq_true c12
              have c12b1 : decide (t282 ≤ (a0.size : Int)) = true := decide_eq_true c12
              clear c12
              obtain ⟨y284, hy284⟩ : ∃ y_ : List (S46), y_ = (([(⟨7, a1, wrap64 (t282 + 3), (⟨#[]⟩ : ByteArray), a0.extract ((ji9) : Int).toNat (t282 : Int).toNat⟩ : S46)] : List (S46))) := ⟨_, rfl⟩
              replace H : (some (y284, true)) = some (r1, r2) := by first | (rw [hy284]; with_reducible exact H) | (have H2_ := (Option.bind_some _ _).symm.trans H; rw [hy284]; with_reducible exact H2_) | (have H2_ := (Option.bind_some _ _).symm.trans H; with_reducible exact H2_) | with_reducible exact H | (rw [hy284]; exact H) | exact H
              have Ny284 := Aside0.mk hy284
              clear hy284
              simp only [Option.some.injEq, Prod.mk.injEq] at H
              obtain ⟨rfl, rfl⟩ := H
              go_enter Try.func61, Try.ntmps61
              go_wp2_with (first | ((with_reducible refine gate_callee (f := 74) rfl ?_); refine goesL_ (some 15) rfl rfl Try.func74 (by kernel_rfl) rfl #[.string a0, .int .i64 a1, .string (⟨#[60, 33, 45, 45]⟩ : ByteArray)] rfl (by (try simp only [List.map_toArray, List.map_cons, List.map_nil]); first | done | rfl | (simp only [List.length_drop, List.length_take]; rfl)) ?_; (with_reducible refine (topiaryref12_begins.calls a0 a1 (⟨#[60, 33, 45, 45]⟩ : ByteArray) true _ A3.out).mono ?_); rintro e w' ⟨rfl, ⟨nd, rfl⟩⟩; refine ⟨_, rfl, ?_⟩) | ((with_reducible refine gate_callee (f := 75) rfl ?_); refine goesL_ (some 19) rfl rfl Try.func75 (by kernel_rfl) rfl #[.string a0, .int .i64 ji9, .string (⟨#[45, 45]⟩ : ByteArray)] rfl (by (try simp only [List.map_toArray, List.map_cons, List.map_nil]); first | done | (simp only [hji9]; rfl) | rfl | (simp only [List.length_drop, List.length_take]; rfl)) ?_; (with_reducible refine (topiaryref12_find.calls k a0 ji9 (⟨#[45, 45]⟩ : ByteArray) t282 _ A5.out).mono ?_); rintro e w' ⟨rfl, ⟨nd, rfl⟩⟩; refine ⟨_, rfl, ?_⟩) | (go_at_call 74; (with_reducible refine (topiaryref12_begins.calls a0 t282 (⟨#[45, 45, 62]⟩ : ByteArray) true _ A7.out).mono ?_); rintro e w' ⟨rfl, ⟨nd, rfl⟩⟩) | ((with_reducible refine gate_dst (N := 37) rfl ?_); refine Kd.R_lit k46 _ 46 ?hg (N := 37) ?hd (xs := ([(⟨7, a1, wrap64 (t282 + 3), (⟨#[]⟩ : ByteArray), a0.extract ((ji9) : Int).toNat (t282 : Int).toNat⟩ : S46)] : List (S46))) (inner := [.int .i64 7, .int .i64 a1, .int .i64 (wrap64 (t282 + 3)), .string (⟨#[]⟩ : ByteArray), .string (a0.extract ((ji9) : Int).toNat (t282 : Int).toNat)]) (ok := fun _ => True) (okp := fun _ => True) ?hr ?hp (fun _ hk => hk) trivial (Below.refl _ _) (Nat.le_refl _) (by simp) ?_; (case hd => rfl); (case hg => rfl); (case hr => first | (go_simp; done) | (go_simp; rfl)); (case hp => exact (Reps.c5 (show Kd.M k46 _ _ _ (⟨7, a1, wrap64 (t282 + 3), (⟨#[]⟩ : ByteArray), a0.extract ((ji9) : Int).toNat (t282 : Int).toNat⟩ : S46) [.int .i64 7, .int .i64 a1, .int .i64 (wrap64 (t282 + 3)), .string (⟨#[]⟩ : ByteArray), .string (a0.extract ((ji9) : Int).toNat (t282 : Int).toNat)] from (k46_mkM _ _ _ (⟨7, a1, wrap64 (t282 + 3), (⟨#[]⟩ : ByteArray), a0.extract ((ji9) : Int).toNat (t282 : Int).toNat⟩ : S46) )) (Reps.none _ _))); intro v285 w13 ho14 hb hg_ hnew_; clear hg_ hnew_; (first | rw [← Ny284.out] at ho14 | (simp only [Int.reduceToNat] at ho14; rw [← Ny284.out] at ho14)); have n0_ := Aside0.mk (Kd.R_lower ho14 (below_size (by repeat (first | (with_reducible first | exact HB.out | apply below_alloc | apply pw_below_drewN | apply below_drew1) | exact HB.out)))); have n1_ := Aside0.mk (below_step (by repeat (first | (with_reducible first | exact HB.out | apply below_alloc | apply pw_below_drewN | apply below_drew1) | exact HB.out)) hb); clear HB; have HO286 := n0_; have HB := n1_; clear n0_ n1_; clear hb ho14))
              go_ret2
              exact ⟨_, by first | rfl | (simp [errW_none, errW_some] <;> rfl) | (simp only [← hji9]; first | rfl | (simp [errW_none, errW_some] <;> rfl)) | (simp [*, errW_none, errW_some] <;> rfl), by (with_reducible repeat (first | apply Kd.R_alloc | apply Kd.R_drewN | apply Kd.R_drew)); exact HO286.out, by repeat (first | (with_reducible first | exact HB.out | apply below_alloc | apply pw_below_drewN | apply below_drew1) | exact HB.out)⟩
            · rw [if_neg c12] at H
              exact absurd H (by simp)
          · rw [if_neg c11] at H
            exact absurd H (by simp)
        · rw [if_neg c10] at H
          exact absurd H (by simp)
      · replace c8 := Bool.eq_false_iff.mpr c8
        subst c8
        have H1 : (some (([] : List (S46)), false)) = some (r1, r2) := by rw [if_neg (show ¬ (false = true) by decide)] at H; exact H
        clear H
        have H := H1
        clear H1
        simp only [Option.some.injEq, Prod.mk.injEq] at H
        obtain ⟨rfl, rfl⟩ := H
        go_enter Try.func61, Try.ntmps61
        go_wp2_with (first | ((with_reducible refine gate_callee (f := 74) rfl ?_); refine goesL_ (some 15) rfl rfl Try.func74 (by kernel_rfl) rfl #[.string a0, .int .i64 a1, .string (⟨#[60, 33, 45, 45]⟩ : ByteArray)] rfl (by (try simp only [List.map_toArray, List.map_cons, List.map_nil]); first | done | rfl | (simp only [List.length_drop, List.length_take]; rfl)) ?_; (with_reducible refine (topiaryref12_begins.calls a0 a1 (⟨#[60, 33, 45, 45]⟩ : ByteArray) true _ A3.out).mono ?_); rintro e w' ⟨rfl, ⟨nd, rfl⟩⟩; refine ⟨_, rfl, ?_⟩) | ((with_reducible refine gate_callee (f := 75) rfl ?_); refine goesL_ (some 19) rfl rfl Try.func75 (by kernel_rfl) rfl #[.string a0, .int .i64 (wrap64 (a1 + 4)), .string (⟨#[45, 45]⟩ : ByteArray)] rfl (by (try simp only [List.map_toArray, List.map_cons, List.map_nil]); first | done | rfl | (simp only [List.length_drop, List.length_take]; rfl)) ?_; (with_reducible refine (topiaryref12_find.calls k a0 (wrap64 (a1 + 4)) (⟨#[45, 45]⟩ : ByteArray) t282 _ A5.out).mono ?_); rintro e w' ⟨rfl, ⟨nd, rfl⟩⟩; refine ⟨_, rfl, ?_⟩) | (go_at_call 74; (with_reducible refine (topiaryref12_begins.calls a0 t282 (⟨#[45, 45, 62]⟩ : ByteArray) false _ A7.out).mono ?_); rintro e w' ⟨rfl, ⟨nd, rfl⟩⟩))
        go_ret2
        exact ⟨_, by first | rfl | (simp [errW_none, errW_some] <;> rfl) | (simp [*, errW_none, errW_some] <;> rfl), by first | exact Kd.R_nil _ _ _ _ _ | exact Kd.N_nil _ _ _ _ _ | exact Kd.V_nil _ _ _ _ _ | exact Kd.Q_nil _ _ _ _ _ | exact Kd.S_nil _ _ _ _ _, by repeat (first | (with_reducible first | exact HB.out | apply below_alloc | apply pw_below_drewN | apply below_drew1) | exact HB.out)⟩
  · replace c4 := Bool.eq_false_iff.mpr c4
    subst c4
    have H1 : ((topiaryref12_begins.f a0 a1 (⟨#[60, 33, 91, 67, 68, 65, 84, 65, 91]⟩ : ByteArray)).bind fun t287 => (if t287 = true then ((topiaryref12_find.f k a0 (wrap64 (a1 + 9)) (⟨#[93, 93, 62]⟩ : ByteArray)).bind fun t288 => (if t288 < 0 then (some (([] : List (S46)), false)) else (if 0 ≤ (wrap64 (a1 + 9)) then (if (wrap64 (a1 + 9)) ≤ t288 then (if t288 ≤ (a0.size : Int) then (some ((([(⟨6, a1, wrap64 (t288 + 3), (⟨#[]⟩ : ByteArray), a0.extract ((wrap64 (a1 + 9)) : Int).toNat (t288 : Int).toNat⟩ : S46)] : List (S46))), true)) else (none)) else (none)) else (none)))) else ((topiaryref12_begins.f a0 a1 (⟨#[60, 47]⟩ : ByteArray)).bind fun t292 => (if t292 = true then ((topiaryref11_NameEnd.f k a0 (wrap64 (a1 + 2))).bind fun t293 => ((topiaryref11_Skip.f k a0 t293).bind fun t294 => (if t293 = (wrap64 (a1 + 2)) then (some (([] : List (S46)), false)) else ((topiaryref12_begins.f a0 t294 (⟨#[62]⟩ : ByteArray)).bind fun t295 => (if t295 = true then (if 0 ≤ (wrap64 (a1 + 2)) then (if (wrap64 (a1 + 2)) ≤ t293 then (if t293 ≤ (a0.size : Int) then (some ((([(⟨5, a1, wrap64 (t294 + 1), a0.extract ((wrap64 (a1 + 2)) : Int).toNat (t293 : Int).toNat, (⟨#[]⟩ : ByteArray)⟩ : S46)] : List (S46))), true)) else (none)) else (none)) else (none)) else (some (([] : List (S46)), false))))))) else ((topiaryref12_begins.f a0 a1 (⟨#[60]⟩ : ByteArray)).bind fun t299 => (if t299 = true then ((topiaryref12_tag.f k a0 a1).bind fun bt300 => (some (bt300.1, bt300.2))) else ((topiaryref12_find.f k a0 a1 (⟨#[60]⟩ : ByteArray)).bind fun t304 => (if t304 < 0 then (if 0 ≤ a1 then (if a1 ≤ (a0.size : Int) then (if (a0.size : Int) ≤ (a0.size : Int) then ((topiaryref12_decoded.f k (a0.extract (a1 : Int).toNat ((a0.size : Int) : Int).toNat)).bind fun bt305 => (some ((([(⟨6, a1, (a0.size : Int), (⟨#[]⟩ : ByteArray), bt305.1⟩ : S46)] : List (S46))), bt305.2))) else (none)) else (none)) else (none)) else (if 0 ≤ a1 then (if a1 ≤ t304 then (if t304 ≤ (a0.size : Int) then ((topiaryref12_decoded.f k (a0.extract (a1 : Int).toNat (t304 : Int).toNat)).bind fun bt310 => (some ((([(⟨6, a1, t304, (⟨#[]⟩ : ByteArray), bt310.1⟩ : S46)] : List (S46))), bt310.2))) else (none)) else (none)) else (none)))))))))) = some (r1, r2) := by rw [if_neg (show ¬ (false = true) by decide)] at H; exact H
    clear H
    have H := H1
    clear H1
    replace H := Option.bind_eq_some_iff.mp H
    obtain ⟨t287, A150, H⟩ := H
    replace H : (if t287 = true then ((topiaryref12_find.f k a0 (wrap64 (a1 + 9)) (⟨#[93, 93, 62]⟩ : ByteArray)).bind fun t288 => (if t288 < 0 then (some (([] : List (S46)), false)) else (if 0 ≤ (wrap64 (a1 + 9)) then (if (wrap64 (a1 + 9)) ≤ t288 then (if t288 ≤ (a0.size : Int) then (some ((([(⟨6, a1, wrap64 (t288 + 3), (⟨#[]⟩ : ByteArray), a0.extract ((wrap64 (a1 + 9)) : Int).toNat (t288 : Int).toNat⟩ : S46)] : List (S46))), true)) else (none)) else (none)) else (none)))) else ((topiaryref12_begins.f a0 a1 (⟨#[60, 47]⟩ : ByteArray)).bind fun t292 => (if t292 = true then ((topiaryref11_NameEnd.f k a0 (wrap64 (a1 + 2))).bind fun t293 => ((topiaryref11_Skip.f k a0 t293).bind fun t294 => (if t293 = (wrap64 (a1 + 2)) then (some (([] : List (S46)), false)) else ((topiaryref12_begins.f a0 t294 (⟨#[62]⟩ : ByteArray)).bind fun t295 => (if t295 = true then (if 0 ≤ (wrap64 (a1 + 2)) then (if (wrap64 (a1 + 2)) ≤ t293 then (if t293 ≤ (a0.size : Int) then (some ((([(⟨5, a1, wrap64 (t294 + 1), a0.extract ((wrap64 (a1 + 2)) : Int).toNat (t293 : Int).toNat, (⟨#[]⟩ : ByteArray)⟩ : S46)] : List (S46))), true)) else (none)) else (none)) else (none)) else (some (([] : List (S46)), false))))))) else ((topiaryref12_begins.f a0 a1 (⟨#[60]⟩ : ByteArray)).bind fun t299 => (if t299 = true then ((topiaryref12_tag.f k a0 a1).bind fun bt300 => (some (bt300.1, bt300.2))) else ((topiaryref12_find.f k a0 a1 (⟨#[60]⟩ : ByteArray)).bind fun t304 => (if t304 < 0 then (if 0 ≤ a1 then (if a1 ≤ (a0.size : Int) then (if (a0.size : Int) ≤ (a0.size : Int) then ((topiaryref12_decoded.f k (a0.extract (a1 : Int).toNat ((a0.size : Int) : Int).toNat)).bind fun bt305 => (some ((([(⟨6, a1, (a0.size : Int), (⟨#[]⟩ : ByteArray), bt305.1⟩ : S46)] : List (S46))), bt305.2))) else (none)) else (none)) else (none)) else (if 0 ≤ a1 then (if a1 ≤ t304 then (if t304 ≤ (a0.size : Int) then ((topiaryref12_decoded.f k (a0.extract (a1 : Int).toNat (t304 : Int).toNat)).bind fun bt310 => (some ((([(⟨6, a1, t304, (⟨#[]⟩ : ByteArray), bt310.1⟩ : S46)] : List (S46))), bt310.2))) else (none)) else (none)) else (none))))))))) = some (r1, r2) := H
    have A15 := Aside0.mk A150
    clear A150
    by_cases c16 : t287 = true
    · subst c16
      have H1 : ((topiaryref12_find.f k a0 (wrap64 (a1 + 9)) (⟨#[93, 93, 62]⟩ : ByteArray)).bind fun t288 => (if t288 < 0 then (some (([] : List (S46)), false)) else (if 0 ≤ (wrap64 (a1 + 9)) then (if (wrap64 (a1 + 9)) ≤ t288 then (if t288 ≤ (a0.size : Int) then (some ((([(⟨6, a1, wrap64 (t288 + 3), (⟨#[]⟩ : ByteArray), a0.extract ((wrap64 (a1 + 9)) : Int).toNat (t288 : Int).toNat⟩ : S46)] : List (S46))), true)) else (none)) else (none)) else (none)))) = some (r1, r2) := by rw [if_pos rfl] at H; exact H
      clear H
      have H := H1
      clear H1
      replace H := Option.bind_eq_some_iff.mp H
      obtain ⟨t288, A170, H⟩ := H
      replace H : (if t288 < 0 then (some (([] : List (S46)), false)) else (if 0 ≤ (wrap64 (a1 + 9)) then (if (wrap64 (a1 + 9)) ≤ t288 then (if t288 ≤ (a0.size : Int) then (some ((([(⟨6, a1, wrap64 (t288 + 3), (⟨#[]⟩ : ByteArray), a0.extract ((wrap64 (a1 + 9)) : Int).toNat (t288 : Int).toNat⟩ : S46)] : List (S46))), true)) else (none)) else (none)) else (none))) = some (r1, r2) := H
      have A17 := Aside0.mk A170
      clear A170
      by_cases c18 : t288 < 0
      · rw [if_pos c18] at H
        have c18b0 : decide (t288 < 0) = true := decide_eq_true c18
        clear c18
        simp only [Option.some.injEq, Prod.mk.injEq] at H
        obtain ⟨rfl, rfl⟩ := H
        go_enter Try.func61, Try.ntmps61
        go_wp2_with (first | ((with_reducible refine gate_callee (f := 74) rfl ?_); refine goesL_ (some 15) rfl rfl Try.func74 (by kernel_rfl) rfl #[.string a0, .int .i64 a1, .string (⟨#[60, 33, 45, 45]⟩ : ByteArray)] rfl (by (try simp only [List.map_toArray, List.map_cons, List.map_nil]); first | done | rfl | (simp only [List.length_drop, List.length_take]; rfl)) ?_; (with_reducible refine (topiaryref12_begins.calls a0 a1 (⟨#[60, 33, 45, 45]⟩ : ByteArray) false _ A3.out).mono ?_); rintro e w' ⟨rfl, ⟨nd, rfl⟩⟩; refine ⟨_, rfl, ?_⟩) | ((with_reducible refine gate_callee (f := 74) rfl ?_); refine goesL_ (some 40) rfl rfl Try.func74 (by kernel_rfl) rfl #[.string a0, .int .i64 a1, .string (⟨#[60, 33, 91, 67, 68, 65, 84, 65, 91]⟩ : ByteArray)] rfl (by (try simp only [List.map_toArray, List.map_cons, List.map_nil]); first | done | rfl | (simp only [List.length_drop, List.length_take]; rfl)) ?_; (with_reducible refine (topiaryref12_begins.calls a0 a1 (⟨#[60, 33, 91, 67, 68, 65, 84, 65, 91]⟩ : ByteArray) true _ A15.out).mono ?_); rintro e w' ⟨rfl, ⟨nd, rfl⟩⟩; refine ⟨_, rfl, ?_⟩) | ((with_reducible refine gate_callee (f := 75) rfl ?_); refine goesL_ (some 44) rfl rfl Try.func75 (by kernel_rfl) rfl #[.string a0, .int .i64 (wrap64 (a1 + 9)), .string (⟨#[93, 93, 62]⟩ : ByteArray)] rfl (by (try simp only [List.map_toArray, List.map_cons, List.map_nil]); first | done | rfl | (simp only [List.length_drop, List.length_take]; rfl)) ?_; (with_reducible refine (topiaryref12_find.calls k a0 (wrap64 (a1 + 9)) (⟨#[93, 93, 62]⟩ : ByteArray) t288 _ A17.out).mono ?_); rintro e w' ⟨rfl, ⟨nd, rfl⟩⟩; refine ⟨_, rfl, ?_⟩))
        go_ret2
        exact ⟨_, by first | rfl | (simp [errW_none, errW_some] <;> rfl) | (simp [*, errW_none, errW_some] <;> rfl), by first | exact Kd.R_nil _ _ _ _ _ | exact Kd.N_nil _ _ _ _ _ | exact Kd.V_nil _ _ _ _ _ | exact Kd.Q_nil _ _ _ _ _ | exact Kd.S_nil _ _ _ _ _, by repeat (first | (with_reducible first | exact HB.out | apply below_alloc | apply pw_below_drewN | apply below_drew1) | exact HB.out)⟩
      · rw [if_neg c18] at H
        have c18b0 : decide (t288 < 0) = false := decide_eq_false c18
        clear c18
        obtain ⟨ji19, hji19⟩ : ∃ j_ : Int, (wrap64 (a1 + 9)) = j_ := ⟨_, rfl⟩
        replace H : (if 0 ≤ (ji19) then (if (ji19) ≤ t288 then (if t288 ≤ (a0.size : Int) then (some ((([(⟨6, a1, wrap64 (t288 + 3), (⟨#[]⟩ : ByteArray), a0.extract ((ji19) : Int).toNat (t288 : Int).toNat⟩ : S46)] : List (S46))), true)) else (none)) else (none)) else (none)) = some (r1, r2) := by first | (rw [hji19] at H; exact H) | (simp only [hji19] at H ⊢; exact H)
        (try rw [hji19] at A3)
        (try rw [hji19] at A15)
        (try rw [hji19] at A17)
        have hji19w : (IntKind.i64.wrap (a1 + 9)) = ji19 := (i64_w _).trans hji19
        by_cases c20 : 0 ≤ (ji19)
        · rw [if_pos c20] at H
          have c20b0 := eq_true c20
          have c20b1 : decide (0 ≤ (ji19)) = true := decide_eq_true c20
          clear c20
          by_cases c21 : (ji19) ≤ t288
          · rw [if_pos c21] at H
            have c21b0 := eq_true c21
            have c21b1 : decide ((ji19) ≤ t288) = true := decide_eq_true c21
            clear c21
            by_cases c22 : t288 ≤ (a0.size : Int)
            · rw [if_pos c22] at H
              have c22b0 := eq_true c22
              have c22b1 : decide (t288 ≤ (a0.size : Int)) = true := decide_eq_true c22
              clear c22
              obtain ⟨y289, hy289⟩ : ∃ y_ : List (S46), y_ = (([(⟨6, a1, wrap64 (t288 + 3), (⟨#[]⟩ : ByteArray), a0.extract ((ji19) : Int).toNat (t288 : Int).toNat⟩ : S46)] : List (S46))) := ⟨_, rfl⟩
              replace H : (some (y289, true)) = some (r1, r2) := by first | (rw [hy289]; with_reducible exact H) | (have H2_ := (Option.bind_some _ _).symm.trans H; rw [hy289]; with_reducible exact H2_) | (have H2_ := (Option.bind_some _ _).symm.trans H; with_reducible exact H2_) | with_reducible exact H | (rw [hy289]; exact H) | exact H
              have Ny289 := Aside0.mk hy289
              clear hy289
              simp only [Option.some.injEq, Prod.mk.injEq] at H
              obtain ⟨rfl, rfl⟩ := H
              go_enter Try.func61, Try.ntmps61
              go_wp2_with (first | ((with_reducible refine gate_callee (f := 74) rfl ?_); refine goesL_ (some 15) rfl rfl Try.func74 (by kernel_rfl) rfl #[.string a0, .int .i64 a1, .string (⟨#[60, 33, 45, 45]⟩ : ByteArray)] rfl (by (try simp only [List.map_toArray, List.map_cons, List.map_nil]); first | done | rfl | (simp only [List.length_drop, List.length_take]; rfl)) ?_; (with_reducible refine (topiaryref12_begins.calls a0 a1 (⟨#[60, 33, 45, 45]⟩ : ByteArray) false _ A3.out).mono ?_); rintro e w' ⟨rfl, ⟨nd, rfl⟩⟩; refine ⟨_, rfl, ?_⟩) | ((with_reducible refine gate_callee (f := 74) rfl ?_); refine goesL_ (some 40) rfl rfl Try.func74 (by kernel_rfl) rfl #[.string a0, .int .i64 a1, .string (⟨#[60, 33, 91, 67, 68, 65, 84, 65, 91]⟩ : ByteArray)] rfl (by (try simp only [List.map_toArray, List.map_cons, List.map_nil]); first | done | rfl | (simp only [List.length_drop, List.length_take]; rfl)) ?_; (with_reducible refine (topiaryref12_begins.calls a0 a1 (⟨#[60, 33, 91, 67, 68, 65, 84, 65, 91]⟩ : ByteArray) true _ A15.out).mono ?_); rintro e w' ⟨rfl, ⟨nd, rfl⟩⟩; refine ⟨_, rfl, ?_⟩) | ((with_reducible refine gate_callee (f := 75) rfl ?_); refine goesL_ (some 44) rfl rfl Try.func75 (by kernel_rfl) rfl #[.string a0, .int .i64 ji19, .string (⟨#[93, 93, 62]⟩ : ByteArray)] rfl (by (try simp only [List.map_toArray, List.map_cons, List.map_nil]); first | done | (simp only [hji19]; rfl) | rfl | (simp only [List.length_drop, List.length_take]; rfl)) ?_; (with_reducible refine (topiaryref12_find.calls k a0 ji19 (⟨#[93, 93, 62]⟩ : ByteArray) t288 _ A17.out).mono ?_); rintro e w' ⟨rfl, ⟨nd, rfl⟩⟩; refine ⟨_, rfl, ?_⟩) | ((with_reducible refine gate_dst (N := 56) rfl ?_); refine Kd.R_lit k46 _ 46 ?hg (N := 56) ?hd (xs := ([(⟨6, a1, wrap64 (t288 + 3), (⟨#[]⟩ : ByteArray), a0.extract ((ji19) : Int).toNat (t288 : Int).toNat⟩ : S46)] : List (S46))) (inner := [.int .i64 6, .int .i64 a1, .int .i64 (wrap64 (t288 + 3)), .string (⟨#[]⟩ : ByteArray), .string (a0.extract ((ji19) : Int).toNat (t288 : Int).toNat)]) (ok := fun _ => True) (okp := fun _ => True) ?hr ?hp (fun _ hk => hk) trivial (Below.refl _ _) (Nat.le_refl _) (by simp) ?_; (case hd => rfl); (case hg => rfl); (case hr => first | (go_simp; done) | (go_simp; rfl)); (case hp => exact (Reps.c5 (show Kd.M k46 _ _ _ (⟨6, a1, wrap64 (t288 + 3), (⟨#[]⟩ : ByteArray), a0.extract ((ji19) : Int).toNat (t288 : Int).toNat⟩ : S46) [.int .i64 6, .int .i64 a1, .int .i64 (wrap64 (t288 + 3)), .string (⟨#[]⟩ : ByteArray), .string (a0.extract ((ji19) : Int).toNat (t288 : Int).toNat)] from (k46_mkM _ _ _ (⟨6, a1, wrap64 (t288 + 3), (⟨#[]⟩ : ByteArray), a0.extract ((ji19) : Int).toNat (t288 : Int).toNat⟩ : S46) )) (Reps.none _ _))); intro v290 w23 ho24 hb hg_ hnew_; clear hg_ hnew_; (first | rw [← Ny289.out] at ho24 | (simp only [Int.reduceToNat] at ho24; rw [← Ny289.out] at ho24)); have n0_ := Aside0.mk (Kd.R_lower ho24 (below_size (by repeat (first | (with_reducible first | exact HB.out | apply below_alloc | apply pw_below_drewN | apply below_drew1) | exact HB.out)))); have n1_ := Aside0.mk (below_step (by repeat (first | (with_reducible first | exact HB.out | apply below_alloc | apply pw_below_drewN | apply below_drew1) | exact HB.out)) hb); clear HB; have HO291 := n0_; have HB := n1_; clear n0_ n1_; clear hb ho24))
              go_ret2
              exact ⟨_, by first | rfl | (simp [errW_none, errW_some] <;> rfl) | (simp only [← hji19]; first | rfl | (simp [errW_none, errW_some] <;> rfl)) | (simp [*, errW_none, errW_some] <;> rfl), by (with_reducible repeat (first | apply Kd.R_alloc | apply Kd.R_drewN | apply Kd.R_drew)); exact HO291.out, by repeat (first | (with_reducible first | exact HB.out | apply below_alloc | apply pw_below_drewN | apply below_drew1) | exact HB.out)⟩
            · rw [if_neg c22] at H
              exact absurd H (by simp)
          · rw [if_neg c21] at H
            exact absurd H (by simp)
        · rw [if_neg c20] at H
          exact absurd H (by simp)
    · replace c16 := Bool.eq_false_iff.mpr c16
      subst c16
      have H1 : ((topiaryref12_begins.f a0 a1 (⟨#[60, 47]⟩ : ByteArray)).bind fun t292 => (if t292 = true then ((topiaryref11_NameEnd.f k a0 (wrap64 (a1 + 2))).bind fun t293 => ((topiaryref11_Skip.f k a0 t293).bind fun t294 => (if t293 = (wrap64 (a1 + 2)) then (some (([] : List (S46)), false)) else ((topiaryref12_begins.f a0 t294 (⟨#[62]⟩ : ByteArray)).bind fun t295 => (if t295 = true then (if 0 ≤ (wrap64 (a1 + 2)) then (if (wrap64 (a1 + 2)) ≤ t293 then (if t293 ≤ (a0.size : Int) then (some ((([(⟨5, a1, wrap64 (t294 + 1), a0.extract ((wrap64 (a1 + 2)) : Int).toNat (t293 : Int).toNat, (⟨#[]⟩ : ByteArray)⟩ : S46)] : List (S46))), true)) else (none)) else (none)) else (none)) else (some (([] : List (S46)), false))))))) else ((topiaryref12_begins.f a0 a1 (⟨#[60]⟩ : ByteArray)).bind fun t299 => (if t299 = true then ((topiaryref12_tag.f k a0 a1).bind fun bt300 => (some (bt300.1, bt300.2))) else ((topiaryref12_find.f k a0 a1 (⟨#[60]⟩ : ByteArray)).bind fun t304 => (if t304 < 0 then (if 0 ≤ a1 then (if a1 ≤ (a0.size : Int) then (if (a0.size : Int) ≤ (a0.size : Int) then ((topiaryref12_decoded.f k (a0.extract (a1 : Int).toNat ((a0.size : Int) : Int).toNat)).bind fun bt305 => (some ((([(⟨6, a1, (a0.size : Int), (⟨#[]⟩ : ByteArray), bt305.1⟩ : S46)] : List (S46))), bt305.2))) else (none)) else (none)) else (none)) else (if 0 ≤ a1 then (if a1 ≤ t304 then (if t304 ≤ (a0.size : Int) then ((topiaryref12_decoded.f k (a0.extract (a1 : Int).toNat (t304 : Int).toNat)).bind fun bt310 => (some ((([(⟨6, a1, t304, (⟨#[]⟩ : ByteArray), bt310.1⟩ : S46)] : List (S46))), bt310.2))) else (none)) else (none)) else (none)))))))) = some (r1, r2) := by rw [if_neg (show ¬ (false = true) by decide)] at H; exact H
      clear H
      have H := H1
      clear H1
      replace H := Option.bind_eq_some_iff.mp H
      obtain ⟨t292, A250, H⟩ := H
      replace H : (if t292 = true then ((topiaryref11_NameEnd.f k a0 (wrap64 (a1 + 2))).bind fun t293 => ((topiaryref11_Skip.f k a0 t293).bind fun t294 => (if t293 = (wrap64 (a1 + 2)) then (some (([] : List (S46)), false)) else ((topiaryref12_begins.f a0 t294 (⟨#[62]⟩ : ByteArray)).bind fun t295 => (if t295 = true then (if 0 ≤ (wrap64 (a1 + 2)) then (if (wrap64 (a1 + 2)) ≤ t293 then (if t293 ≤ (a0.size : Int) then (some ((([(⟨5, a1, wrap64 (t294 + 1), a0.extract ((wrap64 (a1 + 2)) : Int).toNat (t293 : Int).toNat, (⟨#[]⟩ : ByteArray)⟩ : S46)] : List (S46))), true)) else (none)) else (none)) else (none)) else (some (([] : List (S46)), false))))))) else ((topiaryref12_begins.f a0 a1 (⟨#[60]⟩ : ByteArray)).bind fun t299 => (if t299 = true then ((topiaryref12_tag.f k a0 a1).bind fun bt300 => (some (bt300.1, bt300.2))) else ((topiaryref12_find.f k a0 a1 (⟨#[60]⟩ : ByteArray)).bind fun t304 => (if t304 < 0 then (if 0 ≤ a1 then (if a1 ≤ (a0.size : Int) then (if (a0.size : Int) ≤ (a0.size : Int) then ((topiaryref12_decoded.f k (a0.extract (a1 : Int).toNat ((a0.size : Int) : Int).toNat)).bind fun bt305 => (some ((([(⟨6, a1, (a0.size : Int), (⟨#[]⟩ : ByteArray), bt305.1⟩ : S46)] : List (S46))), bt305.2))) else (none)) else (none)) else (none)) else (if 0 ≤ a1 then (if a1 ≤ t304 then (if t304 ≤ (a0.size : Int) then ((topiaryref12_decoded.f k (a0.extract (a1 : Int).toNat (t304 : Int).toNat)).bind fun bt310 => (some ((([(⟨6, a1, t304, (⟨#[]⟩ : ByteArray), bt310.1⟩ : S46)] : List (S46))), bt310.2))) else (none)) else (none)) else (none))))))) = some (r1, r2) := H
      have A25 := Aside0.mk A250
      clear A250
      by_cases c26 : t292 = true
      · subst c26
        have H1 : ((topiaryref11_NameEnd.f k a0 (wrap64 (a1 + 2))).bind fun t293 => ((topiaryref11_Skip.f k a0 t293).bind fun t294 => (if t293 = (wrap64 (a1 + 2)) then (some (([] : List (S46)), false)) else ((topiaryref12_begins.f a0 t294 (⟨#[62]⟩ : ByteArray)).bind fun t295 => (if t295 = true then (if 0 ≤ (wrap64 (a1 + 2)) then (if (wrap64 (a1 + 2)) ≤ t293 then (if t293 ≤ (a0.size : Int) then (some ((([(⟨5, a1, wrap64 (t294 + 1), a0.extract ((wrap64 (a1 + 2)) : Int).toNat (t293 : Int).toNat, (⟨#[]⟩ : ByteArray)⟩ : S46)] : List (S46))), true)) else (none)) else (none)) else (none)) else (some (([] : List (S46)), false))))))) = some (r1, r2) := by rw [if_pos rfl] at H; exact H
        clear H
        have H := H1
        clear H1
        replace H := Option.bind_eq_some_iff.mp H
        obtain ⟨t293, A270, H⟩ := H
        replace H : ((topiaryref11_Skip.f k a0 t293).bind fun t294 => (if t293 = (wrap64 (a1 + 2)) then (some (([] : List (S46)), false)) else ((topiaryref12_begins.f a0 t294 (⟨#[62]⟩ : ByteArray)).bind fun t295 => (if t295 = true then (if 0 ≤ (wrap64 (a1 + 2)) then (if (wrap64 (a1 + 2)) ≤ t293 then (if t293 ≤ (a0.size : Int) then (some ((([(⟨5, a1, wrap64 (t294 + 1), a0.extract ((wrap64 (a1 + 2)) : Int).toNat (t293 : Int).toNat, (⟨#[]⟩ : ByteArray)⟩ : S46)] : List (S46))), true)) else (none)) else (none)) else (none)) else (some (([] : List (S46)), false)))))) = some (r1, r2) := H
        have A27 := Aside0.mk A270
        clear A270
        replace H := Option.bind_eq_some_iff.mp H
        obtain ⟨t294, A280, H⟩ := H
        replace H : (if t293 = (wrap64 (a1 + 2)) then (some (([] : List (S46)), false)) else ((topiaryref12_begins.f a0 t294 (⟨#[62]⟩ : ByteArray)).bind fun t295 => (if t295 = true then (if 0 ≤ (wrap64 (a1 + 2)) then (if (wrap64 (a1 + 2)) ≤ t293 then (if t293 ≤ (a0.size : Int) then (some ((([(⟨5, a1, wrap64 (t294 + 1), a0.extract ((wrap64 (a1 + 2)) : Int).toNat (t293 : Int).toNat, (⟨#[]⟩ : ByteArray)⟩ : S46)] : List (S46))), true)) else (none)) else (none)) else (none)) else (some (([] : List (S46)), false))))) = some (r1, r2) := H
        have A28 := Aside0.mk A280
        clear A280
        by_cases c29 : t293 = (wrap64 (a1 + 2))
        · rw [if_pos c29] at H
          have c29b0 : (t293 == (wrap64 (a1 + 2))) = true := beq_iff_eq.mpr c29
          have c29b1 : (t293 != (wrap64 (a1 + 2))) = false := bne_eq_false_iff_eq.mpr c29
          clear c29
          simp only [Option.some.injEq, Prod.mk.injEq] at H
          obtain ⟨rfl, rfl⟩ := H
          go_enter Try.func61, Try.ntmps61
          go_wp2_with (first | ((with_reducible refine gate_callee (f := 74) rfl ?_); refine goesL_ (some 15) rfl rfl Try.func74 (by kernel_rfl) rfl #[.string a0, .int .i64 a1, .string (⟨#[60, 33, 45, 45]⟩ : ByteArray)] rfl (by (try simp only [List.map_toArray, List.map_cons, List.map_nil]); first | done | rfl | (simp only [List.length_drop, List.length_take]; rfl)) ?_; (with_reducible refine (topiaryref12_begins.calls a0 a1 (⟨#[60, 33, 45, 45]⟩ : ByteArray) false _ A3.out).mono ?_); rintro e w' ⟨rfl, ⟨nd, rfl⟩⟩; refine ⟨_, rfl, ?_⟩) | ((with_reducible refine gate_callee (f := 74) rfl ?_); refine goesL_ (some 40) rfl rfl Try.func74 (by kernel_rfl) rfl #[.string a0, .int .i64 a1, .string (⟨#[60, 33, 91, 67, 68, 65, 84, 65, 91]⟩ : ByteArray)] rfl (by (try simp only [List.map_toArray, List.map_cons, List.map_nil]); first | done | rfl | (simp only [List.length_drop, List.length_take]; rfl)) ?_; (with_reducible refine (topiaryref12_begins.calls a0 a1 (⟨#[60, 33, 91, 67, 68, 65, 84, 65, 91]⟩ : ByteArray) false _ A15.out).mono ?_); rintro e w' ⟨rfl, ⟨nd, rfl⟩⟩; refine ⟨_, rfl, ?_⟩) | ((with_reducible refine gate_callee (f := 74) rfl ?_); refine goesL_ (some 59) rfl rfl Try.func74 (by kernel_rfl) rfl #[.string a0, .int .i64 a1, .string (⟨#[60, 47]⟩ : ByteArray)] rfl (by (try simp only [List.map_toArray, List.map_cons, List.map_nil]); first | done | rfl | (simp only [List.length_drop, List.length_take]; rfl)) ?_; (with_reducible refine (topiaryref12_begins.calls a0 a1 (⟨#[60, 47]⟩ : ByteArray) true _ A25.out).mono ?_); rintro e w' ⟨rfl, ⟨nd, rfl⟩⟩; refine ⟨_, rfl, ?_⟩) | ((with_reducible refine gate_callee (f := 30) rfl ?_); refine goesL_ (some 63) rfl rfl Try.func30 (by kernel_rfl) rfl #[.string a0, .int .i64 (wrap64 (a1 + 2))] rfl (by (try simp only [List.map_toArray, List.map_cons, List.map_nil]); first | done | rfl | (simp only [List.length_drop, List.length_take]; rfl)) ?_; (with_reducible refine (topiaryref11_NameEnd.calls k a0 (wrap64 (a1 + 2)) t293 _ A27.out).mono ?_); rintro e w' ⟨rfl, ⟨nd, rfl⟩⟩; refine ⟨_, rfl, ?_⟩) | ((with_reducible refine gate_callee (f := 33) rfl ?_); refine goesL_ (some 66) rfl rfl Try.func33 (by kernel_rfl) rfl #[.string a0, .int .i64 t293] rfl (by (try simp only [List.map_toArray, List.map_cons, List.map_nil]); first | done | rfl | (simp only [List.length_drop, List.length_take]; rfl)) ?_; (with_reducible refine (topiaryref11_Skip.calls k a0 t293 t294 _ A28.out).mono ?_); rintro e w' ⟨rfl, ⟨nd, rfl⟩⟩; refine ⟨_, rfl, ?_⟩))
          go_ret2
          exact ⟨_, by first | rfl | (simp [errW_none, errW_some] <;> rfl) | (simp [*, errW_none, errW_some] <;> rfl), by first | exact Kd.R_nil _ _ _ _ _ | exact Kd.N_nil _ _ _ _ _ | exact Kd.V_nil _ _ _ _ _ | exact Kd.Q_nil _ _ _ _ _ | exact Kd.S_nil _ _ _ _ _, by repeat (first | (with_reducible first | exact HB.out | apply below_alloc | apply pw_below_drewN | apply below_drew1) | exact HB.out)⟩
        · rw [if_neg c29] at H
          have c29b0 : (t293 == (wrap64 (a1 + 2))) = false := beq_eq_false_iff_ne.mpr c29
          have c29b1 : (t293 != (wrap64 (a1 + 2))) = true := bne_iff_ne.mpr c29
          replace H := Option.bind_eq_some_iff.mp H
          obtain ⟨t295, A300, H⟩ := H
          replace H : (if t295 = true then (if 0 ≤ (wrap64 (a1 + 2)) then (if (wrap64 (a1 + 2)) ≤ t293 then (if t293 ≤ (a0.size : Int) then (some ((([(⟨5, a1, wrap64 (t294 + 1), a0.extract ((wrap64 (a1 + 2)) : Int).toNat (t293 : Int).toNat, (⟨#[]⟩ : ByteArray)⟩ : S46)] : List (S46))), true)) else (none)) else (none)) else (none)) else (some (([] : List (S46)), false))) = some (r1, r2) := H
          have A30 := Aside0.mk A300
          clear A300
          by_cases c31 : t295 = true
          · subst c31
            have H1 : (if 0 ≤ (wrap64 (a1 + 2)) then (if (wrap64 (a1 + 2)) ≤ t293 then (if t293 ≤ (a0.size : Int) then (some ((([(⟨5, a1, wrap64 (t294 + 1), a0.extract ((wrap64 (a1 + 2)) : Int).toNat (t293 : Int).toNat, (⟨#[]⟩ : ByteArray)⟩ : S46)] : List (S46))), true)) else (none)) else (none)) else (none)) = some (r1, r2) := by rw [if_pos rfl] at H; exact H
            clear H
            have H := H1
            clear H1
            obtain ⟨ji32, hji32⟩ : ∃ j_ : Int, (wrap64 (a1 + 2)) = j_ := ⟨_, rfl⟩
            replace H : (if 0 ≤ (ji32) then (if (ji32) ≤ t293 then (if t293 ≤ (a0.size : Int) then (some ((([(⟨5, a1, wrap64 (t294 + 1), a0.extract ((ji32) : Int).toNat (t293 : Int).toNat, (⟨#[]⟩ : ByteArray)⟩ : S46)] : List (S46))), true)) else (none)) else (none)) else (none)) = some (r1, r2) := by first | (rw [hji32] at H; exact H) | (simp only [hji32] at H ⊢; exact H)
            (try rw [hji32] at c29b0)
            (try rw [hji32] at c29b1)
            (try rw [hji32] at A3)
            (try rw [hji32] at A15)
            (try rw [hji32] at A25)
            (try rw [hji32] at A27)
            (try rw [hji32] at A28)
            (try rw [hji32] at A30)
            have hji32w : (IntKind.i64.wrap (a1 + 2)) = ji32 := (i64_w _).trans hji32
            by_cases c33 : 0 ≤ (ji32)
            · rw [if_pos c33] at H
              have c33b0 := eq_true c33
              have c33b1 : decide (0 ≤ (ji32)) = true := decide_eq_true c33
              clear c33
              by_cases c34 : (ji32) ≤ t293
              · rw [if_pos c34] at H
                have c34b0 := eq_true c34
                have c34b1 : decide ((ji32) ≤ t293) = true := decide_eq_true c34
                clear c34
                by_cases c35 : t293 ≤ (a0.size : Int)
                · rw [if_pos c35] at H
                  have c35b0 := eq_true c35
                  have c35b1 : decide (t293 ≤ (a0.size : Int)) = true := decide_eq_true c35
                  clear c35
                  obtain ⟨y296, hy296⟩ : ∃ y_ : List (S46), y_ = (([(⟨5, a1, wrap64 (t294 + 1), a0.extract ((ji32) : Int).toNat (t293 : Int).toNat, (⟨#[]⟩ : ByteArray)⟩ : S46)] : List (S46))) := ⟨_, rfl⟩
                  replace H : (some (y296, true)) = some (r1, r2) := by first | (rw [hy296]; with_reducible exact H) | (have H2_ := (Option.bind_some _ _).symm.trans H; rw [hy296]; with_reducible exact H2_) | (have H2_ := (Option.bind_some _ _).symm.trans H; with_reducible exact H2_) | with_reducible exact H | (rw [hy296]; exact H) | exact H
                  have Ny296 := Aside0.mk hy296
                  clear hy296
                  simp only [Option.some.injEq, Prod.mk.injEq] at H
                  obtain ⟨rfl, rfl⟩ := H
                  go_enter Try.func61, Try.ntmps61
                  go_wp2_with (first | ((with_reducible refine gate_callee (f := 74) rfl ?_); refine goesL_ (some 15) rfl rfl Try.func74 (by kernel_rfl) rfl #[.string a0, .int .i64 a1, .string (⟨#[60, 33, 45, 45]⟩ : ByteArray)] rfl (by (try simp only [List.map_toArray, List.map_cons, List.map_nil]); first | done | rfl | (simp only [List.length_drop, List.length_take]; rfl)) ?_; (with_reducible refine (topiaryref12_begins.calls a0 a1 (⟨#[60, 33, 45, 45]⟩ : ByteArray) false _ A3.out).mono ?_); rintro e w' ⟨rfl, ⟨nd, rfl⟩⟩; refine ⟨_, rfl, ?_⟩) | ((with_reducible refine gate_callee (f := 74) rfl ?_); refine goesL_ (some 40) rfl rfl Try.func74 (by kernel_rfl) rfl #[.string a0, .int .i64 a1, .string (⟨#[60, 33, 91, 67, 68, 65, 84, 65, 91]⟩ : ByteArray)] rfl (by (try simp only [List.map_toArray, List.map_cons, List.map_nil]); first | done | rfl | (simp only [List.length_drop, List.length_take]; rfl)) ?_; (with_reducible refine (topiaryref12_begins.calls a0 a1 (⟨#[60, 33, 91, 67, 68, 65, 84, 65, 91]⟩ : ByteArray) false _ A15.out).mono ?_); rintro e w' ⟨rfl, ⟨nd, rfl⟩⟩; refine ⟨_, rfl, ?_⟩) | ((with_reducible refine gate_callee (f := 74) rfl ?_); refine goesL_ (some 59) rfl rfl Try.func74 (by kernel_rfl) rfl #[.string a0, .int .i64 a1, .string (⟨#[60, 47]⟩ : ByteArray)] rfl (by (try simp only [List.map_toArray, List.map_cons, List.map_nil]); first | done | rfl | (simp only [List.length_drop, List.length_take]; rfl)) ?_; (with_reducible refine (topiaryref12_begins.calls a0 a1 (⟨#[60, 47]⟩ : ByteArray) true _ A25.out).mono ?_); rintro e w' ⟨rfl, ⟨nd, rfl⟩⟩; refine ⟨_, rfl, ?_⟩) | ((with_reducible refine gate_callee (f := 30) rfl ?_); refine goesL_ (some 63) rfl rfl Try.func30 (by kernel_rfl) rfl #[.string a0, .int .i64 ji32] rfl (by (try simp only [List.map_toArray, List.map_cons, List.map_nil]); first | done | (simp only [hji32]; rfl) | rfl | (simp only [List.length_drop, List.length_take]; rfl)) ?_; (with_reducible refine (topiaryref11_NameEnd.calls k a0 ji32 t293 _ A27.out).mono ?_); rintro e w' ⟨rfl, ⟨nd, rfl⟩⟩; refine ⟨_, rfl, ?_⟩) | ((with_reducible refine gate_callee (f := 33) rfl ?_); refine goesL_ (some 66) rfl rfl Try.func33 (by kernel_rfl) rfl #[.string a0, .int .i64 t293] rfl (by (try simp only [List.map_toArray, List.map_cons, List.map_nil]); first | done | rfl | (simp only [List.length_drop, List.length_take]; rfl)) ?_; (with_reducible refine (topiaryref11_Skip.calls k a0 t293 t294 _ A28.out).mono ?_); rintro e w' ⟨rfl, ⟨nd, rfl⟩⟩; refine ⟨_, rfl, ?_⟩) | (go_at_call 74; (with_reducible refine (topiaryref12_begins.calls a0 t294 (⟨#[62]⟩ : ByteArray) true _ A30.out).mono ?_); rintro e w' ⟨rfl, ⟨nd, rfl⟩⟩) | ((with_reducible refine gate_dst (N := 86) rfl ?_); refine Kd.R_lit k46 _ 46 ?hg (N := 86) ?hd (xs := ([(⟨5, a1, wrap64 (t294 + 1), a0.extract ((ji32) : Int).toNat (t293 : Int).toNat, (⟨#[]⟩ : ByteArray)⟩ : S46)] : List (S46))) (inner := [.int .i64 5, .int .i64 a1, .int .i64 (wrap64 (t294 + 1)), .string (a0.extract ((ji32) : Int).toNat (t293 : Int).toNat), .string (⟨#[]⟩ : ByteArray)]) (ok := fun _ => True) (okp := fun _ => True) ?hr ?hp (fun _ hk => hk) trivial (Below.refl _ _) (Nat.le_refl _) (by simp) ?_; (case hd => rfl); (case hg => rfl); (case hr => first | (go_simp; done) | (go_simp; rfl)); (case hp => exact (Reps.c5 (show Kd.M k46 _ _ _ (⟨5, a1, wrap64 (t294 + 1), a0.extract ((ji32) : Int).toNat (t293 : Int).toNat, (⟨#[]⟩ : ByteArray)⟩ : S46) [.int .i64 5, .int .i64 a1, .int .i64 (wrap64 (t294 + 1)), .string (a0.extract ((ji32) : Int).toNat (t293 : Int).toNat), .string (⟨#[]⟩ : ByteArray)] from (k46_mkM _ _ _ (⟨5, a1, wrap64 (t294 + 1), a0.extract ((ji32) : Int).toNat (t293 : Int).toNat, (⟨#[]⟩ : ByteArray)⟩ : S46) )) (Reps.none _ _))); intro v297 w36 ho37 hb hg_ hnew_; clear hg_ hnew_; (first | rw [← Ny296.out] at ho37 | (simp only [Int.reduceToNat] at ho37; rw [← Ny296.out] at ho37)); have n0_ := Aside0.mk (Kd.R_lower ho37 (below_size (by repeat (first | (with_reducible first | exact HB.out | apply below_alloc | apply pw_below_drewN | apply below_drew1) | exact HB.out)))); have n1_ := Aside0.mk (below_step (by repeat (first | (with_reducible first | exact HB.out | apply below_alloc | apply pw_below_drewN | apply below_drew1) | exact HB.out)) hb); clear HB; have HO298 := n0_; have HB := n1_; clear n0_ n1_; clear hb ho37))
                  go_ret2
                  exact ⟨_, by first | rfl | (simp [errW_none, errW_some] <;> rfl) | (simp only [← hji32]; first | rfl | (simp [errW_none, errW_some] <;> rfl)) | (simp [*, errW_none, errW_some] <;> rfl), by (with_reducible repeat (first | apply Kd.R_alloc | apply Kd.R_drewN | apply Kd.R_drew)); exact HO298.out, by repeat (first | (with_reducible first | exact HB.out | apply below_alloc | apply pw_below_drewN | apply below_drew1) | exact HB.out)⟩
                · rw [if_neg c35] at H
                  exact absurd H (by simp)
              · rw [if_neg c34] at H
                exact absurd H (by simp)
            · rw [if_neg c33] at H
              exact absurd H (by simp)
          · replace c31 := Bool.eq_false_iff.mpr c31
            subst c31
            have H1 : (some (([] : List (S46)), false)) = some (r1, r2) := by rw [if_neg (show ¬ (false = true) by decide)] at H; exact H
            clear H
            have H := H1
            clear H1
            simp only [Option.some.injEq, Prod.mk.injEq] at H
            obtain ⟨rfl, rfl⟩ := H
            go_enter Try.func61, Try.ntmps61
            go_wp2_with (first | ((with_reducible refine gate_callee (f := 74) rfl ?_); refine goesL_ (some 15) rfl rfl Try.func74 (by kernel_rfl) rfl #[.string a0, .int .i64 a1, .string (⟨#[60, 33, 45, 45]⟩ : ByteArray)] rfl (by (try simp only [List.map_toArray, List.map_cons, List.map_nil]); first | done | rfl | (simp only [List.length_drop, List.length_take]; rfl)) ?_; (with_reducible refine (topiaryref12_begins.calls a0 a1 (⟨#[60, 33, 45, 45]⟩ : ByteArray) false _ A3.out).mono ?_); rintro e w' ⟨rfl, ⟨nd, rfl⟩⟩; refine ⟨_, rfl, ?_⟩) | ((with_reducible refine gate_callee (f := 74) rfl ?_); refine goesL_ (some 40) rfl rfl Try.func74 (by kernel_rfl) rfl #[.string a0, .int .i64 a1, .string (⟨#[60, 33, 91, 67, 68, 65, 84, 65, 91]⟩ : ByteArray)] rfl (by (try simp only [List.map_toArray, List.map_cons, List.map_nil]); first | done | rfl | (simp only [List.length_drop, List.length_take]; rfl)) ?_; (with_reducible refine (topiaryref12_begins.calls a0 a1 (⟨#[60, 33, 91, 67, 68, 65, 84, 65, 91]⟩ : ByteArray) false _ A15.out).mono ?_); rintro e w' ⟨rfl, ⟨nd, rfl⟩⟩; refine ⟨_, rfl, ?_⟩) | ((with_reducible refine gate_callee (f := 74) rfl ?_); refine goesL_ (some 59) rfl rfl Try.func74 (by kernel_rfl) rfl #[.string a0, .int .i64 a1, .string (⟨#[60, 47]⟩ : ByteArray)] rfl (by (try simp only [List.map_toArray, List.map_cons, List.map_nil]); first | done | rfl | (simp only [List.length_drop, List.length_take]; rfl)) ?_; (with_reducible refine (topiaryref12_begins.calls a0 a1 (⟨#[60, 47]⟩ : ByteArray) true _ A25.out).mono ?_); rintro e w' ⟨rfl, ⟨nd, rfl⟩⟩; refine ⟨_, rfl, ?_⟩) | ((with_reducible refine gate_callee (f := 30) rfl ?_); refine goesL_ (some 63) rfl rfl Try.func30 (by kernel_rfl) rfl #[.string a0, .int .i64 (wrap64 (a1 + 2))] rfl (by (try simp only [List.map_toArray, List.map_cons, List.map_nil]); first | done | rfl | (simp only [List.length_drop, List.length_take]; rfl)) ?_; (with_reducible refine (topiaryref11_NameEnd.calls k a0 (wrap64 (a1 + 2)) t293 _ A27.out).mono ?_); rintro e w' ⟨rfl, ⟨nd, rfl⟩⟩; refine ⟨_, rfl, ?_⟩) | ((with_reducible refine gate_callee (f := 33) rfl ?_); refine goesL_ (some 66) rfl rfl Try.func33 (by kernel_rfl) rfl #[.string a0, .int .i64 t293] rfl (by (try simp only [List.map_toArray, List.map_cons, List.map_nil]); first | done | rfl | (simp only [List.length_drop, List.length_take]; rfl)) ?_; (with_reducible refine (topiaryref11_Skip.calls k a0 t293 t294 _ A28.out).mono ?_); rintro e w' ⟨rfl, ⟨nd, rfl⟩⟩; refine ⟨_, rfl, ?_⟩) | (go_at_call 74; (with_reducible refine (topiaryref12_begins.calls a0 t294 (⟨#[62]⟩ : ByteArray) false _ A30.out).mono ?_); rintro e w' ⟨rfl, ⟨nd, rfl⟩⟩))
            go_ret2
            exact ⟨_, by first | rfl | (simp [errW_none, errW_some] <;> rfl) | (simp [*, errW_none, errW_some] <;> rfl), by first | exact Kd.R_nil _ _ _ _ _ | exact Kd.N_nil _ _ _ _ _ | exact Kd.V_nil _ _ _ _ _ | exact Kd.Q_nil _ _ _ _ _ | exact Kd.S_nil _ _ _ _ _, by repeat (first | (with_reducible first | exact HB.out | apply below_alloc | apply pw_below_drewN | apply below_drew1) | exact HB.out)⟩
      · replace c26 := Bool.eq_false_iff.mpr c26
        subst c26
        have H1 : ((topiaryref12_begins.f a0 a1 (⟨#[60]⟩ : ByteArray)).bind fun t299 => (if t299 = true then ((topiaryref12_tag.f k a0 a1).bind fun bt300 => (some (bt300.1, bt300.2))) else ((topiaryref12_find.f k a0 a1 (⟨#[60]⟩ : ByteArray)).bind fun t304 => (if t304 < 0 then (if 0 ≤ a1 then (if a1 ≤ (a0.size : Int) then (if (a0.size : Int) ≤ (a0.size : Int) then ((topiaryref12_decoded.f k (a0.extract (a1 : Int).toNat ((a0.size : Int) : Int).toNat)).bind fun bt305 => (some ((([(⟨6, a1, (a0.size : Int), (⟨#[]⟩ : ByteArray), bt305.1⟩ : S46)] : List (S46))), bt305.2))) else (none)) else (none)) else (none)) else (if 0 ≤ a1 then (if a1 ≤ t304 then (if t304 ≤ (a0.size : Int) then ((topiaryref12_decoded.f k (a0.extract (a1 : Int).toNat (t304 : Int).toNat)).bind fun bt310 => (some ((([(⟨6, a1, t304, (⟨#[]⟩ : ByteArray), bt310.1⟩ : S46)] : List (S46))), bt310.2))) else (none)) else (none)) else (none)))))) = some (r1, r2) := by rw [if_neg (show ¬ (false = true) by decide)] at H; exact H
        clear H
        have H := H1
        clear H1
        replace H := Option.bind_eq_some_iff.mp H
        obtain ⟨t299, A380, H⟩ := H
        replace H : (if t299 = true then ((topiaryref12_tag.f k a0 a1).bind fun bt300 => (some (bt300.1, bt300.2))) else ((topiaryref12_find.f k a0 a1 (⟨#[60]⟩ : ByteArray)).bind fun t304 => (if t304 < 0 then (if 0 ≤ a1 then (if a1 ≤ (a0.size : Int) then (if (a0.size : Int) ≤ (a0.size : Int) then ((topiaryref12_decoded.f k (a0.extract (a1 : Int).toNat ((a0.size : Int) : Int).toNat)).bind fun bt305 => (some ((([(⟨6, a1, (a0.size : Int), (⟨#[]⟩ : ByteArray), bt305.1⟩ : S46)] : List (S46))), bt305.2))) else (none)) else (none)) else (none)) else (if 0 ≤ a1 then (if a1 ≤ t304 then (if t304 ≤ (a0.size : Int) then ((topiaryref12_decoded.f k (a0.extract (a1 : Int).toNat (t304 : Int).toNat)).bind fun bt310 => (some ((([(⟨6, a1, t304, (⟨#[]⟩ : ByteArray), bt310.1⟩ : S46)] : List (S46))), bt310.2))) else (none)) else (none)) else (none))))) = some (r1, r2) := H
        have A38 := Aside0.mk A380
        clear A380
        by_cases c39 : t299 = true
        · subst c39
          have H1 : ((topiaryref12_tag.f k a0 a1).bind fun bt300 => (some (bt300.1, bt300.2))) = some (r1, r2) := by rw [if_pos rfl] at H; exact H
          clear H
          have H := H1
          clear H1
          replace H := Option.bind_eq_some_iff.mp H
          obtain ⟨⟨t300, t301⟩, A400, H⟩ := H
          replace H : (some (t300, t301)) = some (r1, r2) := H
          have A40 := Aside0.mk A400
          clear A400
          simp only [Option.some.injEq, Prod.mk.injEq] at H
          obtain ⟨rfl, rfl⟩ := H
          go_enter Try.func61, Try.ntmps61
          go_wp2_with (first | ((with_reducible refine gate_callee (f := 74) rfl ?_); refine goesL_ (some 15) rfl rfl Try.func74 (by kernel_rfl) rfl #[.string a0, .int .i64 a1, .string (⟨#[60, 33, 45, 45]⟩ : ByteArray)] rfl (by (try simp only [List.map_toArray, List.map_cons, List.map_nil]); first | done | rfl | (simp only [List.length_drop, List.length_take]; rfl)) ?_; (with_reducible refine (topiaryref12_begins.calls a0 a1 (⟨#[60, 33, 45, 45]⟩ : ByteArray) false _ A3.out).mono ?_); rintro e w' ⟨rfl, ⟨nd, rfl⟩⟩; refine ⟨_, rfl, ?_⟩) | ((with_reducible refine gate_callee (f := 74) rfl ?_); refine goesL_ (some 40) rfl rfl Try.func74 (by kernel_rfl) rfl #[.string a0, .int .i64 a1, .string (⟨#[60, 33, 91, 67, 68, 65, 84, 65, 91]⟩ : ByteArray)] rfl (by (try simp only [List.map_toArray, List.map_cons, List.map_nil]); first | done | rfl | (simp only [List.length_drop, List.length_take]; rfl)) ?_; (with_reducible refine (topiaryref12_begins.calls a0 a1 (⟨#[60, 33, 91, 67, 68, 65, 84, 65, 91]⟩ : ByteArray) false _ A15.out).mono ?_); rintro e w' ⟨rfl, ⟨nd, rfl⟩⟩; refine ⟨_, rfl, ?_⟩) | ((with_reducible refine gate_callee (f := 74) rfl ?_); refine goesL_ (some 59) rfl rfl Try.func74 (by kernel_rfl) rfl #[.string a0, .int .i64 a1, .string (⟨#[60, 47]⟩ : ByteArray)] rfl (by (try simp only [List.map_toArray, List.map_cons, List.map_nil]); first | done | rfl | (simp only [List.length_drop, List.length_take]; rfl)) ?_; (with_reducible refine (topiaryref12_begins.calls a0 a1 (⟨#[60, 47]⟩ : ByteArray) false _ A25.out).mono ?_); rintro e w' ⟨rfl, ⟨nd, rfl⟩⟩; refine ⟨_, rfl, ?_⟩) | ((with_reducible refine gate_callee (f := 74) rfl ?_); refine goesL_ (some 89) rfl rfl Try.func74 (by kernel_rfl) rfl #[.string a0, .int .i64 a1, .string (⟨#[60]⟩ : ByteArray)] rfl (by (try simp only [List.map_toArray, List.map_cons, List.map_nil]); first | done | rfl | (simp only [List.length_drop, List.length_take]; rfl)) ?_; (with_reducible refine (topiaryref12_begins.calls a0 a1 (⟨#[60]⟩ : ByteArray) true _ A38.out).mono ?_); rintro e w' ⟨rfl, ⟨nd, rfl⟩⟩; refine ⟨_, rfl, ?_⟩) | ((with_reducible refine gate_callee (f := 76) rfl ?_); refine goesL_ (some 92) rfl rfl Try.func76 (by kernel_rfl) rfl #[.string a0, .int .i64 a1] rfl (by (try simp only [List.map_toArray, List.map_cons, List.map_nil]); first | done | rfl | (simp only [List.length_drop, List.length_take]; rfl)) ?_; (with_reducible refine (topiaryref12_tag.calls k a0 a1 t300 t301 _ A40.out).mono ?_); rintro e w41 ⟨v302, rfl, ho0, hb⟩; refine ⟨_, rfl, ?_⟩; have n0_ := Aside0.mk (Kd.R_lower ho0 (below_size (by repeat (first | (with_reducible first | exact HB.out | apply below_alloc | apply pw_below_drewN | apply below_drew1) | exact HB.out)))); have n1_ := Aside0.mk (below_step (by repeat (first | (with_reducible first | exact HB.out | apply below_alloc | apply pw_below_drewN | apply below_drew1) | exact HB.out)) hb); clear HB; have HO303 := n0_; have HB := n1_; clear n0_ n1_; (try clear hb); (try clear hb2); (try clear hk); (try clear hi); (try clear ho0)))
          go_ret2
          exact ⟨_, by first | rfl | (simp [errW_none, errW_some] <;> rfl) | (simp [*, errW_none, errW_some] <;> rfl), by (with_reducible repeat (first | apply Kd.R_alloc | apply Kd.R_drewN | apply Kd.R_drew)); exact HO303.out, by repeat (first | (with_reducible first | exact HB.out | apply below_alloc | apply pw_below_drewN | apply below_drew1) | exact HB.out)⟩
        · replace c39 := Bool.eq_false_iff.mpr c39
          subst c39
          have H1 : ((topiaryref12_find.f k a0 a1 (⟨#[60]⟩ : ByteArray)).bind fun t304 => (if t304 < 0 then (if 0 ≤ a1 then (if a1 ≤ (a0.size : Int) then (if (a0.size : Int) ≤ (a0.size : Int) then ((topiaryref12_decoded.f k (a0.extract (a1 : Int).toNat ((a0.size : Int) : Int).toNat)).bind fun bt305 => (some ((([(⟨6, a1, (a0.size : Int), (⟨#[]⟩ : ByteArray), bt305.1⟩ : S46)] : List (S46))), bt305.2))) else (none)) else (none)) else (none)) else (if 0 ≤ a1 then (if a1 ≤ t304 then (if t304 ≤ (a0.size : Int) then ((topiaryref12_decoded.f k (a0.extract (a1 : Int).toNat (t304 : Int).toNat)).bind fun bt310 => (some ((([(⟨6, a1, t304, (⟨#[]⟩ : ByteArray), bt310.1⟩ : S46)] : List (S46))), bt310.2))) else (none)) else (none)) else (none)))) = some (r1, r2) := by rw [if_neg (show ¬ (false = true) by decide)] at H; exact H
          clear H
          have H := H1
          clear H1
          replace H := Option.bind_eq_some_iff.mp H
          obtain ⟨t304, A420, H⟩ := H
          replace H : (if t304 < 0 then (if 0 ≤ a1 then (if a1 ≤ (a0.size : Int) then (if (a0.size : Int) ≤ (a0.size : Int) then ((topiaryref12_decoded.f k (a0.extract (a1 : Int).toNat ((a0.size : Int) : Int).toNat)).bind fun bt305 => (some ((([(⟨6, a1, (a0.size : Int), (⟨#[]⟩ : ByteArray), bt305.1⟩ : S46)] : List (S46))), bt305.2))) else (none)) else (none)) else (none)) else (if 0 ≤ a1 then (if a1 ≤ t304 then (if t304 ≤ (a0.size : Int) then ((topiaryref12_decoded.f k (a0.extract (a1 : Int).toNat (t304 : Int).toNat)).bind fun bt310 => (some ((([(⟨6, a1, t304, (⟨#[]⟩ : ByteArray), bt310.1⟩ : S46)] : List (S46))), bt310.2))) else (none)) else (none)) else (none))) = some (r1, r2) := H
          have A42 := Aside0.mk A420
          clear A420
          by_cases c43 : t304 < 0
          · rw [if_pos c43] at H
            have c43b0 : decide (t304 < 0) = true := decide_eq_true c43
            clear c43
            by_cases c44 : 0 ≤ a1
            · rw [if_pos c44] at H
              have c44b0 := eq_true c44
              have c44b1 : decide (0 ≤ a1) = true := decide_eq_true c44
              clear c44
              by_cases c45 : a1 ≤ (a0.size : Int)
              · rw [if_pos c45] at H
                have c45b0 := eq_true c45
                have c45b1 : decide (a1 ≤ (a0.size : Int)) = true := decide_eq_true c45
                clear c45
                by_cases c46 : (a0.size : Int) ≤ (a0.size : Int)
                · rw [if_pos c46] at H
                  have c46b0 := eq_true c46
                  have c46b1 : decide ((a0.size : Int) ≤ (a0.size : Int)) = true := decide_eq_true c46
                  clear c46
                  replace H := Option.bind_eq_some_iff.mp H
                  obtain ⟨⟨t305, t306⟩, A470, H⟩ := H
                  replace H : (some ((([(⟨6, a1, (a0.size : Int), (⟨#[]⟩ : ByteArray), t305⟩ : S46)] : List (S46))), t306)) = some (r1, r2) := H
                  have A47 := Aside0.mk A470
                  clear A470
                  obtain ⟨y307, hy307⟩ : ∃ y_ : List (S46), y_ = (([(⟨6, a1, (a0.size : Int), (⟨#[]⟩ : ByteArray), t305⟩ : S46)] : List (S46))) := ⟨_, rfl⟩
                  replace H : (some (y307, t306)) = some (r1, r2) := by first | (rw [hy307]; with_reducible exact H) | (have H2_ := (Option.bind_some _ _).symm.trans H; rw [hy307]; with_reducible exact H2_) | (have H2_ := (Option.bind_some _ _).symm.trans H; with_reducible exact H2_) | with_reducible exact H | (rw [hy307]; exact H) | exact H
                  have Ny307 := Aside0.mk hy307
                  clear hy307
                  simp only [Option.some.injEq, Prod.mk.injEq] at H
                  obtain ⟨rfl, rfl⟩ := H
                  go_enter Try.func61, Try.ntmps61
                  go_wp2_with (first | ((with_reducible refine gate_callee (f := 74) rfl ?_); refine goesL_ (some 15) rfl rfl Try.func74 (by kernel_rfl) rfl #[.string a0, .int .i64 a1, .string (⟨#[60, 33, 45, 45]⟩ : ByteArray)] rfl (by (try simp only [List.map_toArray, List.map_cons, List.map_nil]); first | done | rfl | (simp only [List.length_drop, List.length_take]; rfl)) ?_; (with_reducible refine (topiaryref12_begins.calls a0 a1 (⟨#[60, 33, 45, 45]⟩ : ByteArray) false _ A3.out).mono ?_); rintro e w' ⟨rfl, ⟨nd, rfl⟩⟩; refine ⟨_, rfl, ?_⟩) | ((with_reducible refine gate_callee (f := 74) rfl ?_); refine goesL_ (some 40) rfl rfl Try.func74 (by kernel_rfl) rfl #[.string a0, .int .i64 a1, .string (⟨#[60, 33, 91, 67, 68, 65, 84, 65, 91]⟩ : ByteArray)] rfl (by (try simp only [List.map_toArray, List.map_cons, List.map_nil]); first | done | rfl | (simp only [List.length_drop, List.length_take]; rfl)) ?_; (with_reducible refine (topiaryref12_begins.calls a0 a1 (⟨#[60, 33, 91, 67, 68, 65, 84, 65, 91]⟩ : ByteArray) false _ A15.out).mono ?_); rintro e w' ⟨rfl, ⟨nd, rfl⟩⟩; refine ⟨_, rfl, ?_⟩) | ((with_reducible refine gate_callee (f := 74) rfl ?_); refine goesL_ (some 59) rfl rfl Try.func74 (by kernel_rfl) rfl #[.string a0, .int .i64 a1, .string (⟨#[60, 47]⟩ : ByteArray)] rfl (by (try simp only [List.map_toArray, List.map_cons, List.map_nil]); first | done | rfl | (simp only [List.length_drop, List.length_take]; rfl)) ?_; (with_reducible refine (topiaryref12_begins.calls a0 a1 (⟨#[60, 47]⟩ : ByteArray) false _ A25.out).mono ?_); rintro e w' ⟨rfl, ⟨nd, rfl⟩⟩; refine ⟨_, rfl, ?_⟩) | ((with_reducible refine gate_callee (f := 74) rfl ?_); refine goesL_ (some 89) rfl rfl Try.func74 (by kernel_rfl) rfl #[.string a0, .int .i64 a1, .string (⟨#[60]⟩ : ByteArray)] rfl (by (try simp only [List.map_toArray, List.map_cons, List.map_nil]); first | done | rfl | (simp only [List.length_drop, List.length_take]; rfl)) ?_; (with_reducible refine (topiaryref12_begins.calls a0 a1 (⟨#[60]⟩ : ByteArray) false _ A38.out).mono ?_); rintro e w' ⟨rfl, ⟨nd, rfl⟩⟩; refine ⟨_, rfl, ?_⟩) | ((with_reducible refine gate_callee (f := 75) rfl ?_); refine goesL_ (some 97) rfl rfl Try.func75 (by kernel_rfl) rfl #[.string a0, .int .i64 a1, .string (⟨#[60]⟩ : ByteArray)] rfl (by (try simp only [List.map_toArray, List.map_cons, List.map_nil]); first | done | rfl | (simp only [List.length_drop, List.length_take]; rfl)) ?_; (with_reducible refine (topiaryref12_find.calls k a0 a1 (⟨#[60]⟩ : ByteArray) t304 _ A42.out).mono ?_); rintro e w' ⟨rfl, ⟨nd, rfl⟩⟩; refine ⟨_, rfl, ?_⟩) | ((with_reducible refine gate_callee (f := 77) rfl ?_); refine goesL_ (some 107) rfl rfl Try.func77 (by kernel_rfl) rfl #[.string (a0.extract (a1 : Int).toNat ((a0.size : Int) : Int).toNat)] rfl (by (try simp only [List.map_toArray, List.map_cons, List.map_nil]); first | done | rfl | (simp only [List.length_drop, List.length_take]; rfl)) ?_; (with_reducible refine (topiaryref12_decoded.calls k (a0.extract (a1 : Int).toNat ((a0.size : Int) : Int).toNat) t305 t306 _ A47.out).mono ?_); rintro e w48 ⟨rfl, hb⟩; refine ⟨_, rfl, ?_⟩; have n0_ := Aside0.mk (below_step (by repeat (first | (with_reducible first | exact HB.out | apply below_alloc | apply pw_below_drewN | apply below_drew1) | exact HB.out)) hb); clear HB; have HB := n0_; clear n0_; (try clear hb); (try clear hb2); (try clear hk); (try clear hi)) | ((with_reducible refine gate_dst (N := 114) rfl ?_); refine Kd.R_lit k46 _ 46 ?hg (N := 114) ?hd (xs := ([(⟨6, a1, (a0.size : Int), (⟨#[]⟩ : ByteArray), t305⟩ : S46)] : List (S46))) (inner := [.int .i64 6, .int .i64 a1, .int .i64 (a0.size : Int), .string (⟨#[]⟩ : ByteArray), .string t305]) (ok := fun _ => True) (okp := fun _ => True) ?hr ?hp (fun _ hk => hk) trivial (Below.refl _ _) (Nat.le_refl _) (by simp) ?_; (case hd => rfl); (case hg => rfl); (case hr => first | (go_simp; done) | (go_simp; rfl)); (case hp => exact (Reps.c5 (show Kd.M k46 _ _ _ (⟨6, a1, (a0.size : Int), (⟨#[]⟩ : ByteArray), t305⟩ : S46) [.int .i64 6, .int .i64 a1, .int .i64 (a0.size : Int), .string (⟨#[]⟩ : ByteArray), .string t305] from (k46_mkM _ _ _ (⟨6, a1, (a0.size : Int), (⟨#[]⟩ : ByteArray), t305⟩ : S46) )) (Reps.none _ _))); intro v308 w49 ho50 hb hg_ hnew_; clear hg_ hnew_; (first | rw [← Ny307.out] at ho50 | (simp only [Int.reduceToNat] at ho50; rw [← Ny307.out] at ho50)); have n0_ := Aside0.mk (Kd.R_lower ho50 (below_size (by repeat (first | (with_reducible first | exact HB.out | apply below_alloc | apply pw_below_drewN | apply below_drew1) | exact HB.out)))); have n1_ := Aside0.mk (below_step (by repeat (first | (with_reducible first | exact HB.out | apply below_alloc | apply pw_below_drewN | apply below_drew1) | exact HB.out)) hb); clear HB; have HO309 := n0_; have HB := n1_; clear n0_ n1_; clear hb ho50))
                  go_ret2
                  exact ⟨_, by first | rfl | (simp [errW_none, errW_some] <;> rfl) | (simp [*, errW_none, errW_some] <;> rfl), by (with_reducible repeat (first | apply Kd.R_alloc | apply Kd.R_drewN | apply Kd.R_drew)); exact HO309.out, by repeat (first | (with_reducible first | exact HB.out | apply below_alloc | apply pw_below_drewN | apply below_drew1) | exact HB.out)⟩
                · rw [if_neg c46] at H
                  exact absurd H (by simp)
              · rw [if_neg c45] at H
                exact absurd H (by simp)
            · rw [if_neg c44] at H
              exact absurd H (by simp)
          · rw [if_neg c43] at H
            have c43b0 : decide (t304 < 0) = false := decide_eq_false c43
            clear c43
            by_cases c51 : 0 ≤ a1
            · rw [if_pos c51] at H
              have c51b0 := eq_true c51
              have c51b1 : decide (0 ≤ a1) = true := decide_eq_true c51
              clear c51
              by_cases c52 : a1 ≤ t304
              · rw [if_pos c52] at H
                have c52b0 := eq_true c52
                have c52b1 : decide (a1 ≤ t304) = true := decide_eq_true c52
                clear c52
                by_cases c53 : t304 ≤ (a0.size : Int)
                · rw [if_pos c53] at H
                  have c53b0 := eq_true c53
                  have c53b1 : decide (t304 ≤ (a0.size : Int)) = true := decide_eq_true c53
                  clear c53
                  replace H := Option.bind_eq_some_iff.mp H
                  obtain ⟨⟨t310, t311⟩, A540, H⟩ := H
                  replace H : (some ((([(⟨6, a1, t304, (⟨#[]⟩ : ByteArray), t310⟩ : S46)] : List (S46))), t311)) = some (r1, r2) := H
                  have A54 := Aside0.mk A540
                  clear A540
                  obtain ⟨y312, hy312⟩ : ∃ y_ : List (S46), y_ = (([(⟨6, a1, t304, (⟨#[]⟩ : ByteArray), t310⟩ : S46)] : List (S46))) := ⟨_, rfl⟩
                  replace H : (some (y312, t311)) = some (r1, r2) := by first | (rw [hy312]; with_reducible exact H) | (have H2_ := (Option.bind_some _ _).symm.trans H; rw [hy312]; with_reducible exact H2_) | (have H2_ := (Option.bind_some _ _).symm.trans H; with_reducible exact H2_) | with_reducible exact H | (rw [hy312]; exact H) | exact H
                  have Ny312 := Aside0.mk hy312
                  clear hy312
                  simp only [Option.some.injEq, Prod.mk.injEq] at H
                  obtain ⟨rfl, rfl⟩ := H
                  go_enter Try.func61, Try.ntmps61
                  go_wp2_with (first | ((with_reducible refine gate_callee (f := 74) rfl ?_); refine goesL_ (some 15) rfl rfl Try.func74 (by kernel_rfl) rfl #[.string a0, .int .i64 a1, .string (⟨#[60, 33, 45, 45]⟩ : ByteArray)] rfl (by (try simp only [List.map_toArray, List.map_cons, List.map_nil]); first | done | rfl | (simp only [List.length_drop, List.length_take]; rfl)) ?_; (with_reducible refine (topiaryref12_begins.calls a0 a1 (⟨#[60, 33, 45, 45]⟩ : ByteArray) false _ A3.out).mono ?_); rintro e w' ⟨rfl, ⟨nd, rfl⟩⟩; refine ⟨_, rfl, ?_⟩) | ((with_reducible refine gate_callee (f := 74) rfl ?_); refine goesL_ (some 40) rfl rfl Try.func74 (by kernel_rfl) rfl #[.string a0, .int .i64 a1, .string (⟨#[60, 33, 91, 67, 68, 65, 84, 65, 91]⟩ : ByteArray)] rfl (by (try simp only [List.map_toArray, List.map_cons, List.map_nil]); first | done | rfl | (simp only [List.length_drop, List.length_take]; rfl)) ?_; (with_reducible refine (topiaryref12_begins.calls a0 a1 (⟨#[60, 33, 91, 67, 68, 65, 84, 65, 91]⟩ : ByteArray) false _ A15.out).mono ?_); rintro e w' ⟨rfl, ⟨nd, rfl⟩⟩; refine ⟨_, rfl, ?_⟩) | ((with_reducible refine gate_callee (f := 74) rfl ?_); refine goesL_ (some 59) rfl rfl Try.func74 (by kernel_rfl) rfl #[.string a0, .int .i64 a1, .string (⟨#[60, 47]⟩ : ByteArray)] rfl (by (try simp only [List.map_toArray, List.map_cons, List.map_nil]); first | done | rfl | (simp only [List.length_drop, List.length_take]; rfl)) ?_; (with_reducible refine (topiaryref12_begins.calls a0 a1 (⟨#[60, 47]⟩ : ByteArray) false _ A25.out).mono ?_); rintro e w' ⟨rfl, ⟨nd, rfl⟩⟩; refine ⟨_, rfl, ?_⟩) | ((with_reducible refine gate_callee (f := 74) rfl ?_); refine goesL_ (some 89) rfl rfl Try.func74 (by kernel_rfl) rfl #[.string a0, .int .i64 a1, .string (⟨#[60]⟩ : ByteArray)] rfl (by (try simp only [List.map_toArray, List.map_cons, List.map_nil]); first | done | rfl | (simp only [List.length_drop, List.length_take]; rfl)) ?_; (with_reducible refine (topiaryref12_begins.calls a0 a1 (⟨#[60]⟩ : ByteArray) false _ A38.out).mono ?_); rintro e w' ⟨rfl, ⟨nd, rfl⟩⟩; refine ⟨_, rfl, ?_⟩) | ((with_reducible refine gate_callee (f := 75) rfl ?_); refine goesL_ (some 97) rfl rfl Try.func75 (by kernel_rfl) rfl #[.string a0, .int .i64 a1, .string (⟨#[60]⟩ : ByteArray)] rfl (by (try simp only [List.map_toArray, List.map_cons, List.map_nil]); first | done | rfl | (simp only [List.length_drop, List.length_take]; rfl)) ?_; (with_reducible refine (topiaryref12_find.calls k a0 a1 (⟨#[60]⟩ : ByteArray) t304 _ A42.out).mono ?_); rintro e w' ⟨rfl, ⟨nd, rfl⟩⟩; refine ⟨_, rfl, ?_⟩) | ((with_reducible refine gate_callee (f := 77) rfl ?_); refine goesL_ (some 107) rfl rfl Try.func77 (by kernel_rfl) rfl #[.string (a0.extract (a1 : Int).toNat (t304 : Int).toNat)] rfl (by (try simp only [List.map_toArray, List.map_cons, List.map_nil]); first | done | rfl | (simp only [List.length_drop, List.length_take]; rfl)) ?_; (with_reducible refine (topiaryref12_decoded.calls k (a0.extract (a1 : Int).toNat (t304 : Int).toNat) t310 t311 _ A54.out).mono ?_); rintro e w55 ⟨rfl, hb⟩; refine ⟨_, rfl, ?_⟩; have n0_ := Aside0.mk (below_step (by repeat (first | (with_reducible first | exact HB.out | apply below_alloc | apply pw_below_drewN | apply below_drew1) | exact HB.out)) hb); clear HB; have HB := n0_; clear n0_; (try clear hb); (try clear hb2); (try clear hk); (try clear hi)) | ((with_reducible refine gate_dst (N := 114) rfl ?_); refine Kd.R_lit k46 _ 46 ?hg (N := 114) ?hd (xs := ([(⟨6, a1, t304, (⟨#[]⟩ : ByteArray), t310⟩ : S46)] : List (S46))) (inner := [.int .i64 6, .int .i64 a1, .int .i64 t304, .string (⟨#[]⟩ : ByteArray), .string t310]) (ok := fun _ => True) (okp := fun _ => True) ?hr ?hp (fun _ hk => hk) trivial (Below.refl _ _) (Nat.le_refl _) (by simp) ?_; (case hd => rfl); (case hg => rfl); (case hr => first | (go_simp; done) | (go_simp; rfl)); (case hp => exact (Reps.c5 (show Kd.M k46 _ _ _ (⟨6, a1, t304, (⟨#[]⟩ : ByteArray), t310⟩ : S46) [.int .i64 6, .int .i64 a1, .int .i64 t304, .string (⟨#[]⟩ : ByteArray), .string t310] from (k46_mkM _ _ _ (⟨6, a1, t304, (⟨#[]⟩ : ByteArray), t310⟩ : S46) )) (Reps.none _ _))); intro v313 w56 ho57 hb hg_ hnew_; clear hg_ hnew_; (first | rw [← Ny312.out] at ho57 | (simp only [Int.reduceToNat] at ho57; rw [← Ny312.out] at ho57)); have n0_ := Aside0.mk (Kd.R_lower ho57 (below_size (by repeat (first | (with_reducible first | exact HB.out | apply below_alloc | apply pw_below_drewN | apply below_drew1) | exact HB.out)))); have n1_ := Aside0.mk (below_step (by repeat (first | (with_reducible first | exact HB.out | apply below_alloc | apply pw_below_drewN | apply below_drew1) | exact HB.out)) hb); clear HB; have HO314 := n0_; have HB := n1_; clear n0_ n1_; clear hb ho57))
                  go_ret2
                  exact ⟨_, by first | rfl | (simp [errW_none, errW_some] <;> rfl) | (simp [*, errW_none, errW_some] <;> rfl), by (with_reducible repeat (first | apply Kd.R_alloc | apply Kd.R_drewN | apply Kd.R_drew)); exact HO314.out, by repeat (first | (with_reducible first | exact HB.out | apply below_alloc | apply pw_below_drewN | apply below_drew1) | exact HB.out)⟩
                · rw [if_neg c53] at H
                  exact absurd H (by simp)
              · rw [if_neg c52] at H
                exact absurd H (by simp)
            · rw [if_neg c51] at H
              exact absurd H (by simp)
def topiaryref12_Lex.l0 : Nat → ByteArray → List (S46) → Int → Option ((List (S46)) × Int)
  | 0, _, _, _ => none
  | k + 1, x0, x5, x6 => if x6 < (x0.size : Int) then ((topiaryref12_piece.f k x0 x6).bind fun bt316 => (if bt316.2 = true then (if (bt316.1.length : Int) = 0 then (some (([] : List (S46)), 15)) else (if x5.length + bt316.1.length < 2513169434916 then (if 0 ≤ (wrap64 ((bt316.1.length : Int) - 1)) then (if (wrap64 ((bt316.1.length : Int) - 1)) < (bt316.1.length : Int) then (topiaryref12_Lex.l0 k x0 (x5 ++ bt316.1) ((rd_T46 bt316.1 (wrap64 ((bt316.1.length : Int) - 1))).f2)) else (none)) else (none)) else (none))) else (some (([] : List (S46)), 15)))) else (some (x5, 0))
def topiaryref12_Lex.f (k : Nat) (a0 : ByteArray) : Option ((List (S46)) × Int) := if (a0.size : Int) > 65536 then (some (([] : List (S46)), 18)) else ((topiaryref11_Valid.f k a0).bind fun t315 => (if t315 = true then (topiaryref12_Lex.l0 k a0 ([] : List (S46)) 0) else (some (([] : List (S46)), 15))))
theorem topiaryref12_Lex.mono_l : ∀ k, (∀ y0 y1 y2, LeO (topiaryref12_Lex.l0 k y0 y1 y2) (topiaryref12_Lex.l0 (k + 1) y0 y1 y2))
  | 0 => fun _ _ _ r h => by simp [topiaryref12_Lex.l0] at h
  | k + 1 => by
    have ih0 := topiaryref12_Lex.mono_l k
    · intro y0 y1 y2
      unfold topiaryref12_Lex.l0
      repeat' first
      | (with_reducible exact ih0 _ _ _)
      | (with_reducible exact topiaryref11_Valid.mono _ _)
      | (with_reducible exact topiaryref12_piece.mono _ _ _)
      | (with_reducible exact LeO.refl _)
      | (with_reducible exact LeO.none _)
      | (with_reducible refine LeO.ite ?_ ?_)
      | (with_reducible refine LeO.bind ?_ (fun _ => ?_))
      | exact ih0 _ _ _
      | exact topiaryref11_Valid.mono _ _
      | exact topiaryref12_piece.mono _ _ _
      | exact LeO.none _
      | refine LeO.ite ?_ ?_
      | refine LeO.bind ?_ (fun _ => ?_)
theorem topiaryref12_Lex.mono : ∀ a0 k, LeO (topiaryref12_Lex.f k a0) (topiaryref12_Lex.f (k + 1) a0) := by
  intro a0 k
  have ih0 := topiaryref12_Lex.mono_l k
  unfold topiaryref12_Lex.f
  repeat' first
      | (with_reducible exact ih0 _ _ _)
      | (with_reducible exact topiaryref11_Valid.mono _ _)
      | (with_reducible exact topiaryref12_piece.mono _ _ _)
      | (with_reducible exact LeO.refl _)
      | (with_reducible exact LeO.none _)
      | (with_reducible refine LeO.ite ?_ ?_)
      | (with_reducible refine LeO.bind ?_ (fun _ => ?_))
      | exact ih0 _ _ _
      | exact topiaryref11_Valid.mono _ _
      | exact topiaryref12_piece.mono _ _ _
      | exact LeO.none _
      | refine LeO.ite ?_ ?_
      | refine LeO.bind ?_ (fun _ => ?_)
set_option maxHeartbeats 8000000 in
set_option maxRecDepth 100000 in
theorem topiaryref12_Lex.calls (k : Nat) (a0 : ByteArray) (r1 : List (S46)) (r2 : Int) (w : World) (h : topiaryref12_Lex.f k a0 = some (r1, r2)) :
    Calls Try.prog 40 #[.string a0] w fun e w' => ∃ v0_ : Value, e = .returned (.tuple #[v0_, .int .i64 r2]) ∧ Kd.R k46 46 w' w.heap.size (fun _ => True) v0_ r1 ∧ Below w.heap.size w w' := by
  have HB := Aside0.mk (Below.refl w.heap.size w)
  have H : (if (a0.size : Int) > 65536 then (some (([] : List (S46)), 18)) else ((topiaryref11_Valid.f k a0).bind fun t315 => (if t315 = true then (topiaryref12_Lex.l0 k a0 ([] : List (S46)) 0) else (some (([] : List (S46)), 15))))) = some (r1, r2) := h
  clear h
  by_cases c2 : (a0.size : Int) > 65536
  · rw [if_pos c2] at H
    have c2b0 : decide (65536 < (a0.size : Int)) = true := decide_eq_true c2
    have c2b1 : decide (65536 < a0.size) = true := decide_eq_true (by omega)
    clear c2
    simp only [Option.some.injEq, Prod.mk.injEq] at H
    obtain ⟨rfl, rfl⟩ := H
    go_enter Try.func40, Try.ntmps40
    go_wp2
    go_ret2
    exact ⟨_, by first | rfl | (simp [errW_none, errW_some] <;> rfl) | (simp [*, errW_none, errW_some] <;> rfl), by first | exact Kd.R_nil _ _ _ _ _ | exact Kd.N_nil _ _ _ _ _ | exact Kd.V_nil _ _ _ _ _ | exact Kd.Q_nil _ _ _ _ _ | exact Kd.S_nil _ _ _ _ _, by repeat (first | (with_reducible first | exact HB.out | apply below_alloc | apply pw_below_drewN | apply below_drew1) | exact HB.out)⟩
  · rw [if_neg c2] at H
    have c2b0 : decide (65536 < (a0.size : Int)) = false := decide_eq_false c2
    have c2b1 : decide (65536 < a0.size) = false := decide_eq_false (by omega)
    clear c2
    replace H := Option.bind_eq_some_iff.mp H
    obtain ⟨t315, A30, H⟩ := H
    replace H : (if t315 = true then (topiaryref12_Lex.l0 k a0 ([] : List (S46)) 0) else (some (([] : List (S46)), 15))) = some (r1, r2) := H
    have A3 := Aside0.mk A30
    clear A30
    by_cases c4 : t315 = true
    · subst c4
      have H1 : (topiaryref12_Lex.l0 k a0 ([] : List (S46)) 0) = some (r1, r2) := by rw [if_pos rfl] at H; exact H
      clear H
      have H := H1
      clear H1
      have H' := Aside0.mk H
      clear H
      go_enter Try.func40, Try.ntmps40
      go_wp2_with (first | ((with_reducible refine gate_callee (f := 29) rfl ?_); refine goesL_ (some 13) rfl rfl Try.func29 (by kernel_rfl) rfl #[.string a0] rfl (by (try simp only [List.map_toArray, List.map_cons, List.map_nil]); first | done | rfl | (simp only [List.length_drop, List.length_take]; rfl)) ?_; (with_reducible refine (topiaryref11_Valid.calls k a0 true _ A3.out).mono ?_); rintro e w5 ⟨rfl, hb⟩; refine ⟨_, rfl, ?_⟩; have n0_ := Aside0.mk (below_step (by repeat (first | (with_reducible first | exact HB.out | apply below_alloc | apply pw_below_drewN | apply below_drew1) | exact HB.out)) hb); clear HB; have HB := n0_; clear n0_; (try clear hb); (try clear hb2); (try clear hk); (try clear hi)))
      go_loopg [5, 6] k (fun kq v5 v6 w' => ∃ (x5_1 : List (S46)) (x6_1 : Int), v6 = .int .i64 x6_1 ∧ Aside0 (topiaryref12_Lex.l0 kq a0 x5_1 x6_1 = some (r1, r2)) ∧ Aside0 (kq ≤ k) ∧ Aside0 (Kd.R k46 46 w' w.heap.size (fun _ => True) v5 x5_1) ∧ Aside0 (Below w.heap.size w w'))
      case atStart => exact ⟨(([] : List (S46))), (0), (by first | rfl | (simp; done) | (simp [*]; done)), H', ⟨Nat.le_refl _⟩, ⟨by first | exact Kd.R_nil _ _ _ _ _ | exact Kd.N_nil _ _ _ _ _ | exact Kd.V_nil _ _ _ _ _ | exact Kd.Q_nil _ _ _ _ _ | exact Kd.S_nil _ _ _ _ _⟩, ⟨by repeat (first | (with_reducible first | exact HB.out | apply below_alloc | apply pw_below_drewN | apply below_drew1) | exact HB.out)⟩⟩
      case round =>
        clear H'
        try clear c2
        try clear c2b0
        try clear c2b1
        try clear p2
        try clear c4
        obtain ⟨x5_1, x6_1, rfl, HA, HK1, HO_5, HB⟩ := hrel
        cases gk with
        | zero => exact absurd HA.out (by simp [topiaryref12_Lex.l0])
        | succ k1 =>
          have H := HA.out
          clear HA
          simp only [topiaryref12_Lex.l0] at H
          by_cases c6 : x6_1 < (a0.size : Int)
          · rw [if_pos c6] at H
            have c6b0 : decide (x6_1 < (a0.size : Int)) = true := decide_eq_true c6
            clear c6
            replace H := Option.bind_eq_some_iff.mp H
            obtain ⟨⟨t316, t317⟩, A70, H⟩ := H
            replace H : (if t317 = true then (if (t316.length : Int) = 0 then (some (([] : List (S46)), 15)) else (if x5_1.length + t316.length < 2513169434916 then (if 0 ≤ (wrap64 ((t316.length : Int) - 1)) then (if (wrap64 ((t316.length : Int) - 1)) < (t316.length : Int) then (topiaryref12_Lex.l0 k1 a0 (x5_1 ++ t316) ((rd_T46 t316 (wrap64 ((t316.length : Int) - 1))).f2)) else (none)) else (none)) else (none))) else (some (([] : List (S46)), 15))) = some (r1, r2) := H
            have A7 := Aside0.mk A70
            clear A70
            by_cases c8 : t317 = true
            · subst c8
              have H1 : (if (t316.length : Int) = 0 then (some (([] : List (S46)), 15)) else (if x5_1.length + t316.length < 2513169434916 then (if 0 ≤ (wrap64 ((t316.length : Int) - 1)) then (if (wrap64 ((t316.length : Int) - 1)) < (t316.length : Int) then (topiaryref12_Lex.l0 k1 a0 (x5_1 ++ t316) ((rd_T46 t316 (wrap64 ((t316.length : Int) - 1))).f2)) else (none)) else (none)) else (none))) = some (r1, r2) := by rw [if_pos rfl] at H; exact H
              clear H
              have H := H1
              clear H1
              by_cases c9 : (t316.length : Int) = 0
              · rw [if_pos c9] at H
                have c9b0 : ((t316.length : Int) == 0) = true := beq_iff_eq.mpr c9
                have c9b1 : ((t316.length : Int) != 0) = false := bne_eq_false_iff_eq.mpr c9
                clear c9
                simp only [Option.some.injEq, Prod.mk.injEq] at H
                obtain ⟨rfl, rfl⟩ := H
                go_wp2_with (first | ((with_reducible refine gate_callee (f := 61) rfl ?_); refine goesL_ (some 23) rfl rfl Try.func61 (by kernel_rfl) rfl #[.string a0, .int .i64 x6_1] rfl (by (try simp only [List.map_toArray, List.map_cons, List.map_nil]); first | done | rfl | (simp only [List.length_drop, List.length_take]; rfl)) ?_; (with_reducible refine (topiaryref12_piece.calls k1 a0 x6_1 t316 true _ A7.out).mono ?_); rintro e w10 ⟨v318, rfl, ho0, hb⟩; refine ⟨_, rfl, ?_⟩; have n0_ := Aside0.mk (Kd.R_elder' (by (with_reducible repeat (first | apply Kd.R_alloc | apply Kd.R_drewN | apply Kd.R_drew)); exact HO_5.out) (Kd.R_base ho0) hb); have n1_ := Aside0.mk (Kd.R_lower (Kd.R_new' ho0 (Kd.R_lt (by (with_reducible repeat (first | apply Kd.R_alloc | apply Kd.R_drewN | apply Kd.R_drew)); exact HO_5.out))) (below_size (by repeat (first | (with_reducible first | exact HB.out | apply below_alloc | apply pw_below_drewN | apply below_drew1) | exact HB.out)))); have n2_ := Aside0.mk (below_step (by repeat (first | (with_reducible first | exact HB.out | apply below_alloc | apply pw_below_drewN | apply below_drew1) | exact HB.out)) hb); clear HO_5; clear HB; have HO_5 := n0_; have HO319 := n1_; have HB := n2_; clear n0_ n1_ n2_; (try clear hb); (try clear hb2); (try clear hk); (try clear hi); (try clear ho0); obtain ⟨Ao11, co11, eo11⟩ := Kd.R_slice HO319.out; subst eo11))
                go_ret2
                exact ⟨_, by first | rfl | (simp [errW_none, errW_some] <;> rfl) | (simp [*, errW_none, errW_some] <;> rfl), by first | exact Kd.R_nil _ _ _ _ _ | exact Kd.N_nil _ _ _ _ _ | exact Kd.V_nil _ _ _ _ _ | exact Kd.Q_nil _ _ _ _ _ | exact Kd.S_nil _ _ _ _ _, by repeat (first | (with_reducible first | exact HB.out | apply below_alloc | apply pw_below_drewN | apply below_drew1) | exact HB.out)⟩
              · rw [if_neg c9] at H
                have c9b0 : ((t316.length : Int) == 0) = false := beq_eq_false_iff_ne.mpr c9
                have c9b1 : ((t316.length : Int) != 0) = true := bne_iff_ne.mpr c9
                have c9b2 : ¬ (t316 = []) := fun h_ => c9 (by rw [h_]; rfl)
                by_cases c12 : x5_1.length + t316.length < 2513169434916
                · rw [if_pos c12] at H
                  have LMc12 := Aside0.mk c12
                  clear c12
                  obtain ⟨y320, hy320⟩ : ∃ y_ : List (S46), y_ = (x5_1 ++ t316) := ⟨_, rfl⟩
                  replace H : (if 0 ≤ (wrap64 ((t316.length : Int) - 1)) then (if (wrap64 ((t316.length : Int) - 1)) < (t316.length : Int) then (topiaryref12_Lex.l0 k1 a0 y320 ((rd_T46 t316 (wrap64 ((t316.length : Int) - 1))).f2)) else (none)) else (none)) = some (r1, r2) := by first | (rw [hy320]; with_reducible exact H) | (have H2_ := (Option.bind_some _ _).symm.trans H; rw [hy320]; with_reducible exact H2_) | (have H2_ := (Option.bind_some _ _).symm.trans H; with_reducible exact H2_) | with_reducible exact H | (rw [hy320]; exact H) | exact H
                  have Ny320 := Aside0.mk hy320
                  clear hy320
                  obtain ⟨ji13, hji13⟩ : ∃ j_ : Int, (wrap64 ((t316.length : Int) - 1)) = j_ := ⟨_, rfl⟩
                  replace H : (if 0 ≤ (ji13) then (if (ji13) < (t316.length : Int) then (topiaryref12_Lex.l0 k1 a0 y320 ((rd_T46 t316 (ji13)).f2)) else (none)) else (none)) = some (r1, r2) := by first | (rw [hji13] at H; exact H) | (simp only [hji13] at H ⊢; exact H)
                  (try rw [hji13] at A7)
                  have hji13w : (IntKind.i64.wrap ((t316.length : Int) - 1)) = ji13 := (i64_w _).trans hji13
                  by_cases c14 : 0 ≤ (ji13)
                  · rw [if_pos c14] at H
                    have c14b0 : decide (0 ≤ (ji13)) = true := decide_eq_true c14
                    clear c14
                    by_cases c15 : (ji13) < (t316.length : Int)
                    · rw [if_pos c15] at H
                      have c15b0 : decide ((ji13) < (t316.length : Int)) = true := decide_eq_true c15
                      clear c15
                      have H' := Aside0.mk H
                      clear H
                      go_wp2_with (first | ((with_reducible refine gate_callee (f := 61) rfl ?_); refine goesL_ (some 23) rfl rfl Try.func61 (by kernel_rfl) rfl #[.string a0, .int .i64 x6_1] rfl (by (try simp only [List.map_toArray, List.map_cons, List.map_nil]); first | done | rfl | (simp only [List.length_drop, List.length_take]; rfl)) ?_; (with_reducible refine (topiaryref12_piece.calls k1 a0 x6_1 t316 true _ A7.out).mono ?_); rintro e w16 ⟨v318, rfl, ho0, hb⟩; refine ⟨_, rfl, ?_⟩; have n0_ := Aside0.mk (Kd.R_elder' (by (with_reducible repeat (first | apply Kd.R_alloc | apply Kd.R_drewN | apply Kd.R_drew)); exact HO_5.out) (Kd.R_base ho0) hb); have n1_ := Aside0.mk (Kd.R_lower (Kd.R_new' ho0 (Kd.R_lt (by (with_reducible repeat (first | apply Kd.R_alloc | apply Kd.R_drewN | apply Kd.R_drew)); exact HO_5.out))) (below_size (by repeat (first | (with_reducible first | exact HB.out | apply below_alloc | apply pw_below_drewN | apply below_drew1) | exact HB.out)))); have n2_ := Aside0.mk (below_step (by repeat (first | (with_reducible first | exact HB.out | apply below_alloc | apply pw_below_drewN | apply below_drew1) | exact HB.out)) hb); clear HO_5; clear HB; have HO_5 := n0_; have HO319 := n1_; have HB := n2_; clear n0_ n1_ n2_; (try clear hb); (try clear hb2); (try clear hk); (try clear hi); (try clear ho0); obtain ⟨Ao17, co17, eo17⟩ := Kd.R_slice HO319.out; subst eo17) | ((with_reducible refine gate_builtin (b := .append) (xs := #[.tmp 33, .tmp 34]) rfl ?_); (try (refine gate_guard (by rfl) ?_; dsimp only)); at_builtin; refine Kd.R_append_rows k46 (w0 := w) w.heap.size rfl (.tmp 33) (.tmp 34) 40 46 (.agg #[(.int .i64 0), (.int .i64 0), (.int .i64 0), (.string ⟨#[]⟩), (.string ⟨#[]⟩)]) 56 rfl Try.underlying40 info46 rfl (by decide) (by omega) u5 x5_1 t316 _ _ _ (fun k_ => some k_ ≠ (.slice Ao17 t316.length co17 : Value).ownBlock) (fun _ => False) rfl rfl ?aO ?aR (fun _ _ h => h) (fun _ h => h.elim) ?aF ?aB ?aS ?aL ?_; (case aR => repeat (first | exact (Kd.R_reads' HO319.out).2.2 | (with_reducible refine Kd.C_alloc ?_ _) | (with_reducible refine Kd.C_drewN ?_ _) | (with_reducible refine Kd.C_drew ?_))); (case aB => exact (by repeat (first | (with_reducible first | exact HB.out | apply below_alloc | apply pw_below_drewN | apply below_drew1) | exact HB.out))); (case aF => exact (fun k_ hk => Kd.fresh' (Kd.R_lt (by (with_reducible repeat (first | apply Kd.R_alloc | apply Kd.R_drewN | apply Kd.R_drew)); exact HO319.out)) k_ hk)); (case aO => exact (by (with_reducible repeat (first | apply Kd.R_alloc | apply Kd.R_drewN | apply Kd.R_drew)); exact Kd.R_mono HO_5.out (fun _ hk => hk.2))); (case aS => exact (below_size (by repeat (first | (with_reducible first | exact HB.out | apply below_alloc | apply pw_below_drewN | apply below_drew1) | exact HB.out)))); (case aL => have := LMc12.out; omega); intro v321 w18 ho hb hg hat; rw [← Ny320.out] at ho; have n0_ := Aside0.mk (Kd.R_after (ok := (fun _ => True)) (by (with_reducible repeat (first | apply Kd.R_alloc | apply Kd.R_drewN | apply Kd.R_drew)); exact HO319.out) hg hat); have n1_ := Aside0.mk (hb); have n2_ := Aside0.mk (ho); clear HO319; clear HB; clear HO_5; have HO319 := n0_; have HB := n1_; have HO322 := n2_; clear n0_ n1_ n2_; clear ho hb hg hat; have p323 : 0 ≤ ((ji13) : Int) := of_decide_eq_true (by first | (with_reducible assumption) | assumption); have q323 : (ji13) < (t316.length : Int) := of_decide_eq_true (by first | (with_reducible assumption) | assumption); obtain ⟨ad323, e323, hx323_0, hx323_1, hx323_2, hx323_3, hx323_4⟩ := at_T46 (Kd.R_reads' HO319.out).2.2 (ji13) p323 q323; cases e323; replace p323 := eq_true p323; replace q323 := eq_true q323))
                      go_roundg k1
                      case measure => have := HK1.out; omega
                      case rel => exact ⟨(y320), ((rd_T46 t316 (ji13)).f2), (by first | rfl | (simp; done) | (simp only [← hji13] <;> (first | rfl | simp)) | (simp [*]; done)), H', ⟨by have := HK1.out; omega⟩, ⟨by (with_reducible repeat (first | apply Kd.R_alloc | apply Kd.R_drewN | apply Kd.R_drew)); exact Kd.R_mono HO322.out (fun _ hk => trivial)⟩, ⟨by repeat (first | (with_reducible first | exact HB.out | apply below_alloc | apply pw_below_drewN | apply below_drew1) | exact HB.out)⟩⟩
                    · rw [if_neg c15] at H
                      exact absurd H (by simp)
                  · rw [if_neg c14] at H
                    exact absurd H (by simp)
                · rw [if_neg c12] at H
                  exact absurd H (by simp)
            · replace c8 := Bool.eq_false_iff.mpr c8
              subst c8
              have H1 : (some (([] : List (S46)), 15)) = some (r1, r2) := by rw [if_neg (show ¬ (false = true) by decide)] at H; exact H
              clear H
              have H := H1
              clear H1
              simp only [Option.some.injEq, Prod.mk.injEq] at H
              obtain ⟨rfl, rfl⟩ := H
              go_wp2_with (first | ((with_reducible refine gate_callee (f := 61) rfl ?_); refine goesL_ (some 23) rfl rfl Try.func61 (by kernel_rfl) rfl #[.string a0, .int .i64 x6_1] rfl (by (try simp only [List.map_toArray, List.map_cons, List.map_nil]); first | done | rfl | (simp only [List.length_drop, List.length_take]; rfl)) ?_; (with_reducible refine (topiaryref12_piece.calls k1 a0 x6_1 t316 false _ A7.out).mono ?_); rintro e w19 ⟨v318, rfl, ho0, hb⟩; refine ⟨_, rfl, ?_⟩; have n0_ := Aside0.mk (Kd.R_elder' (by (with_reducible repeat (first | apply Kd.R_alloc | apply Kd.R_drewN | apply Kd.R_drew)); exact HO_5.out) (Kd.R_base ho0) hb); have n1_ := Aside0.mk (Kd.R_lower (Kd.R_new' ho0 (Kd.R_lt (by (with_reducible repeat (first | apply Kd.R_alloc | apply Kd.R_drewN | apply Kd.R_drew)); exact HO_5.out))) (below_size (by repeat (first | (with_reducible first | exact HB.out | apply below_alloc | apply pw_below_drewN | apply below_drew1) | exact HB.out)))); have n2_ := Aside0.mk (below_step (by repeat (first | (with_reducible first | exact HB.out | apply below_alloc | apply pw_below_drewN | apply below_drew1) | exact HB.out)) hb); clear HO_5; clear HB; have HO_5 := n0_; have HO319 := n1_; have HB := n2_; clear n0_ n1_ n2_; (try clear hb); (try clear hb2); (try clear hk); (try clear hi); (try clear ho0)))
              go_ret2
              exact ⟨_, by first | rfl | (simp [errW_none, errW_some] <;> rfl) | (simp [*, errW_none, errW_some] <;> rfl), by first | exact Kd.R_nil _ _ _ _ _ | exact Kd.N_nil _ _ _ _ _ | exact Kd.V_nil _ _ _ _ _ | exact Kd.Q_nil _ _ _ _ _ | exact Kd.S_nil _ _ _ _ _, by repeat (first | (with_reducible first | exact HB.out | apply below_alloc | apply pw_below_drewN | apply below_drew1) | exact HB.out)⟩
          · rw [if_neg c6] at H
            have c6b0 : decide (x6_1 < (a0.size : Int)) = false := decide_eq_false c6
            clear c6
            simp only [Option.some.injEq, Prod.mk.injEq] at H
            obtain ⟨rfl, rfl⟩ := H
            go_wp2
            go_ret2
            exact ⟨_, by first | rfl | (simp [errW_none, errW_some] <;> rfl) | (simp [*, errW_none, errW_some] <;> rfl), by (with_reducible repeat (first | apply Kd.R_alloc | apply Kd.R_drewN | apply Kd.R_drew)); exact HO_5.out, by repeat (first | (with_reducible first | exact HB.out | apply below_alloc | apply pw_below_drewN | apply below_drew1) | exact HB.out)⟩
    · replace c4 := Bool.eq_false_iff.mpr c4
      subst c4
      have H1 : (some (([] : List (S46)), 15)) = some (r1, r2) := by rw [if_neg (show ¬ (false = true) by decide)] at H; exact H
      clear H
      have H := H1
      clear H1
      simp only [Option.some.injEq, Prod.mk.injEq] at H
      obtain ⟨rfl, rfl⟩ := H
      go_enter Try.func40, Try.ntmps40
      go_wp2_with (first | ((with_reducible refine gate_callee (f := 29) rfl ?_); refine goesL_ (some 13) rfl rfl Try.func29 (by kernel_rfl) rfl #[.string a0] rfl (by (try simp only [List.map_toArray, List.map_cons, List.map_nil]); first | done | rfl | (simp only [List.length_drop, List.length_take]; rfl)) ?_; (with_reducible refine (topiaryref11_Valid.calls k a0 false _ A3.out).mono ?_); rintro e w20 ⟨rfl, hb⟩; refine ⟨_, rfl, ?_⟩; have n0_ := Aside0.mk (below_step (by repeat (first | (with_reducible first | exact HB.out | apply below_alloc | apply pw_below_drewN | apply below_drew1) | exact HB.out)) hb); clear HB; have HB := n0_; clear n0_; (try clear hb); (try clear hb2); (try clear hk); (try clear hi)))
      go_ret2
      exact ⟨_, by first | rfl | (simp [errW_none, errW_some] <;> rfl) | (simp [*, errW_none, errW_some] <;> rfl), by first | exact Kd.R_nil _ _ _ _ _ | exact Kd.N_nil _ _ _ _ _ | exact Kd.V_nil _ _ _ _ _ | exact Kd.Q_nil _ _ _ _ _ | exact Kd.S_nil _ _ _ _ _, by repeat (first | (with_reducible first | exact HB.out | apply below_alloc | apply pw_below_drewN | apply below_drew1) | exact HB.out)⟩
def topiaryref12_Same.l0 : Nat → List (S46) → List (S46) → Int → Option (Bool)
  | 0, _, _, _ => none
  | k + 1, x0, x1, x5 => if x5 < (x0.length : Int) then (if 0 ≤ x5 then (if x5 < (x1.length : Int) then (if (!(((rd_T46 x0 x5).f0) == ((rd_T46 x1 x5).f0)) || (!(((rd_T46 x0 x5).f1) == ((rd_T46 x1 x5).f1)) || (!(((rd_T46 x0 x5).f2) == ((rd_T46 x1 x5).f2)) || (!((((rd_T46 x0 x5).f3).toList) == (((rd_T46 x1 x5).f3).toList)) || (!((((rd_T46 x0 x5).f4).toList) == (((rd_T46 x1 x5).f4).toList))))))) = true then (some false) else (topiaryref12_Same.l0 k x0 x1 (wrap64 (x5 + 1)))) else (none)) else (none)) else (some true)
def topiaryref12_Same.f (k : Nat) (l0 : List (S46)) (l1 : List (S46)) : Option (Bool) := if (l0.length : Int) = (l1.length : Int) then (topiaryref12_Same.l0 k l0 l1 0) else (some false)
theorem topiaryref12_Same.mono_l : ∀ k, (∀ y0 y1 y2, LeO (topiaryref12_Same.l0 k y0 y1 y2) (topiaryref12_Same.l0 (k + 1) y0 y1 y2))
  | 0 => fun _ _ _ r h => by simp [topiaryref12_Same.l0] at h
  | k + 1 => by
    have ih0 := topiaryref12_Same.mono_l k
    · intro y0 y1 y2
      unfold topiaryref12_Same.l0
      repeat' first
      | (with_reducible exact ih0 _ _ _)
      | (with_reducible exact LeO.refl _)
      | (with_reducible exact LeO.none _)
      | (with_reducible refine LeO.ite ?_ ?_)
      | (with_reducible refine LeO.bind ?_ (fun _ => ?_))
      | exact ih0 _ _ _
      | exact LeO.none _
      | refine LeO.ite ?_ ?_
      | refine LeO.bind ?_ (fun _ => ?_)
theorem topiaryref12_Same.mono : ∀ a0 a1 k, LeO (topiaryref12_Same.f k a0 a1) (topiaryref12_Same.f (k + 1) a0 a1) := by
  intro a0 a1 k
  have ih0 := topiaryref12_Same.mono_l k
  unfold topiaryref12_Same.f
  repeat' first
      | (with_reducible exact ih0 _ _ _)
      | (with_reducible exact LeO.refl _)
      | (with_reducible exact LeO.none _)
      | (with_reducible refine LeO.ite ?_ ?_)
      | (with_reducible refine LeO.bind ?_ (fun _ => ?_))
      | exact ih0 _ _ _
      | exact LeO.none _
      | refine LeO.ite ?_ ?_
      | refine LeO.bind ?_ (fun _ => ?_)
set_option maxHeartbeats 8000000 in
set_option maxRecDepth 100000 in
theorem topiaryref12_Same.calls (k : Nat) (A0 : Option Addr) (c0 : Nat) (l0 : List (S46)) (A1 : Option Addr) (c1 : Nat) (l1 : List (S46)) (r : Bool) (w : World) (hr0 : Kd.C k46 w A0 l0.length l0) (hc0 : l0.length ≤ c0) (hr1 : Kd.C k46 w A1 l1.length l1) (hc1 : l1.length ≤ c1) (h : topiaryref12_Same.f k l0 l1 = some r) :
    Calls Try.prog 41 #[.slice A0 l0.length c0, .slice A1 l1.length c1] w fun e w' => e = .returned (.bool r) ∧ Drawn0 w w' := by
  have hu46 := Try.underlying46
  have HR0 := Aside0.mk hr0
  have HC0 := Aside0.mk hc0
  clear hr0 hc0
  have HR1 := Aside0.mk hr1
  have HC1 := Aside0.mk hc1
  clear hr1 hc1
  have H : (if (l0.length : Int) = (l1.length : Int) then (topiaryref12_Same.l0 k l0 l1 0) else (some false)) = some r := h
  clear h
  by_cases c3 : (l0.length : Int) = (l1.length : Int)
  · rw [if_pos c3] at H
    have c3b0 : ((l0.length : Int) == (l1.length : Int)) = true := beq_iff_eq.mpr c3
    have c3b1 : ((l0.length : Int) != (l1.length : Int)) = false := bne_eq_false_iff_eq.mpr c3
    have c3b2 : (l0.length == l1.length) = true := by first | simpa using c3 | (simp at c3 ⊢; omega)
    clear c3
    have H' := Aside0.mk H
    clear H
    go_enter Try.func41, Try.ntmps41
    go_wp2
    repeat (go_quiet (fail); try go_wp2)
    go_loopg [5] k (fun kq v5 w' => ∃ (x5_1 : Int), v5 = .int .i64 x5_1 ∧ Aside0 (topiaryref12_Same.l0 kq l0 l1 x5_1 = some r) ∧ Aside0 (kq ≤ k) ∧ Drawn0 w w')
    case atStart => exact ⟨(0), (by first | rfl | (simp; done) | (simp [*]; done)), H', ⟨Nat.le_refl _⟩, by repeat (first | exact Drawn0.refl _ | apply Drawn0.step)⟩
    case round =>
      clear H'
      try clear c1
      try clear p2
      try clear c3
      try clear c3b0
      try clear c3b1
      try clear c3b2
      obtain ⟨x5_1, rfl, HA, HK1, ⟨m1, rfl⟩⟩ := hrel
      cases gk with
      | zero => exact absurd HA.out (by simp [topiaryref12_Same.l0])
      | succ k1 =>
        have H := HA.out
        clear HA
        simp only [topiaryref12_Same.l0] at H
        by_cases c4 : x5_1 < (l0.length : Int)
        · rw [if_pos c4] at H
          have c4b0 : decide (x5_1 < (l0.length : Int)) = true := decide_eq_true c4
          clear c4
          by_cases c5 : 0 ≤ x5_1
          · rw [if_pos c5] at H
            have c5b0 : decide (0 ≤ x5_1) = true := decide_eq_true c5
            clear c5
            by_cases c6 : x5_1 < (l1.length : Int)
            · rw [if_pos c6] at H
              have c6b0 : decide (x5_1 < (l1.length : Int)) = true := decide_eq_true c6
              clear c6
              by_cases c7 : (!(((rd_T46 l0 x5_1).f0) == ((rd_T46 l1 x5_1).f0)) || (!(((rd_T46 l0 x5_1).f1) == ((rd_T46 l1 x5_1).f1)) || (!(((rd_T46 l0 x5_1).f2) == ((rd_T46 l1 x5_1).f2)) || (!((((rd_T46 l0 x5_1).f3).toList) == (((rd_T46 l1 x5_1).f3).toList)) || (!((((rd_T46 l0 x5_1).f4).toList) == (((rd_T46 l1 x5_1).f4).toList))))))) = true
              · rw [if_pos c7] at H
                have c7b0 : (!(((rd_T46 l0 x5_1).f0) == ((rd_T46 l1 x5_1).f0)) || (!(((rd_T46 l0 x5_1).f1) == ((rd_T46 l1 x5_1).f1)) || (!(((rd_T46 l0 x5_1).f2) == ((rd_T46 l1 x5_1).f2)) || (!((((rd_T46 l0 x5_1).f3).toList) == (((rd_T46 l1 x5_1).f3).toList)) || (!((((rd_T46 l0 x5_1).f4).toList) == (((rd_T46 l1 x5_1).f4).toList))))))) = true := c7
                clear c7
                obtain rfl := Option.some.inj H
                have p324 : 0 ≤ (x5_1 : Int) := of_decide_eq_true (by first | (with_reducible assumption) | assumption)
                have q324 : x5_1 < (l0.length : Int) := of_decide_eq_true (by first | (with_reducible assumption) | assumption)
                obtain ⟨ad324, e324, hx324_0, hx324_1, hx324_2, hx324_3, hx324_4⟩ := at_T46 HR0.out x5_1 p324 q324
                cases e324
                replace p324 := eq_true p324
                replace q324 := eq_true q324
                have p325 : 0 ≤ (x5_1 : Int) := of_decide_eq_true (by first | (with_reducible assumption) | assumption)
                have q325 : x5_1 < (l1.length : Int) := of_decide_eq_true (by first | (with_reducible assumption) | assumption)
                obtain ⟨ad325, e325, hx325_0, hx325_1, hx325_2, hx325_3, hx325_4⟩ := at_T46 HR1.out x5_1 p325 q325
                cases e325
                replace p325 := eq_true p325
                replace q325 := eq_true q325
                go_wp2
                repeat (go_quiet (fail); try go_wp2)
                go_ret
                exact ⟨by first | rfl | (simp; done) | (simp [*]; done), by repeat (first | exact Drawn0.refl _ | apply Drawn0.step)⟩
              · rw [if_neg c7] at H
                have c7b0 : (!(((rd_T46 l0 x5_1).f0) == ((rd_T46 l1 x5_1).f0)) || (!(((rd_T46 l0 x5_1).f1) == ((rd_T46 l1 x5_1).f1)) || (!(((rd_T46 l0 x5_1).f2) == ((rd_T46 l1 x5_1).f2)) || (!((((rd_T46 l0 x5_1).f3).toList) == (((rd_T46 l1 x5_1).f3).toList)) || (!((((rd_T46 l0 x5_1).f4).toList) == (((rd_T46 l1 x5_1).f4).toList))))))) = false := by simpa using c7
                clear c7
                have H' := Aside0.mk H
                clear H
                have p324 : 0 ≤ (x5_1 : Int) := of_decide_eq_true (by first | (with_reducible assumption) | assumption)
                have q324 : x5_1 < (l0.length : Int) := of_decide_eq_true (by first | (with_reducible assumption) | assumption)
                obtain ⟨ad324, e324, hx324_0, hx324_1, hx324_2, hx324_3, hx324_4⟩ := at_T46 HR0.out x5_1 p324 q324
                cases e324
                replace p324 := eq_true p324
                replace q324 := eq_true q324
                have p325 : 0 ≤ (x5_1 : Int) := of_decide_eq_true (by first | (with_reducible assumption) | assumption)
                have q325 : x5_1 < (l1.length : Int) := of_decide_eq_true (by first | (with_reducible assumption) | assumption)
                obtain ⟨ad325, e325, hx325_0, hx325_1, hx325_2, hx325_3, hx325_4⟩ := at_T46 HR1.out x5_1 p325 q325
                cases e325
                replace p325 := eq_true p325
                replace q325 := eq_true q325
                go_wp2
                repeat (go_quiet (fail); try go_wp2)
                go_roundg k1
                case measure => have := HK1.out; omega
                case rel => exact ⟨(wrap64 (x5_1 + 1)), (by first | rfl | (simp; done) | (simp [*]; done)), H', ⟨by have := HK1.out; omega⟩, by repeat (first | exact Drawn0.refl _ | apply Drawn0.step)⟩
            · rw [if_neg c6] at H
              exact absurd H (by simp)
          · rw [if_neg c5] at H
            exact absurd H (by simp)
        · rw [if_neg c4] at H
          have c4b0 : decide (x5_1 < (l0.length : Int)) = false := decide_eq_false c4
          clear c4
          obtain rfl := Option.some.inj H
          go_wp2
          repeat (go_quiet (fail); try go_wp2)
          go_ret
          exact ⟨by first | rfl | (simp; done) | (simp [*]; done), by repeat (first | exact Drawn0.refl _ | apply Drawn0.step)⟩
  · rw [if_neg c3] at H
    have c3b0 : ((l0.length : Int) == (l1.length : Int)) = false := beq_eq_false_iff_ne.mpr c3
    have c3b1 : ((l0.length : Int) != (l1.length : Int)) = true := bne_iff_ne.mpr c3
    have c3b2 : (l0.length == l1.length) = false := by first | simpa using c3 | (simp at c3 ⊢; omega)
    obtain rfl := Option.some.inj H
    go_enter Try.func41, Try.ntmps41
    go_wp2
    repeat (go_quiet (fail); try go_wp2)
    go_ret
    exact ⟨by first | rfl | (simp; done) | (simp [*]; done), by repeat (first | exact Drawn0.refl _ | apply Drawn0.step)⟩
end Go.Proofs.Ytekkaoenabjeiaa.Q
end
