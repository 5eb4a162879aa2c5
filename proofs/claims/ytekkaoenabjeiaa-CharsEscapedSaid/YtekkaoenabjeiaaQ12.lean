-- Written by a program of this session (wip/tools/myprint.py); Lean checks it.
import Derived.Test.YtekkaoenabjeiaaQ0
import Derived.Test.YtekkaoenabjeiaaQ7
import Derived.Test.YtekkaoenabjeiaaQ8
import Derived.Test.YtekkaoenabjeiaaEsc
namespace Go.Proofs.Ytekkaoenabjeiaa.X
end Go.Proofs.Ytekkaoenabjeiaa.X
namespace Go.Proofs.Ytekkaoenabjeiaa.Q
open Go.RowKit Go.Proofs.YtekkaoenabjeiaaW.PrintWords Go.Proofs.YtekkaoenabjeiaaW.PrintLast Go.Proofs.YtekkaoenabjeiaaW.PrintMore
attribute [local go_sem] max2_int min2_int max_two min_two max_three min_three max_four min_four   -- for this text's walks alone
open Go.Proofs.Ytekkaoenabjeiaa.X
set_option linter.unusedVariables false
set_option linter.unusedSimpArgs false

/-! ### topiarylaw11_CharsEscaped: function 5 -/
mutual
def topiarylaw11_CharsEscaped.l0 : Nat → ByteArray → Bool → ByteArray → ByteArray → Int → Option (Bool)
  | 0, _, _, _, _, _ => none
  | k + 1, x0, x3, x4, x5, x6 => if x6 < (x4.size : Int) then (if 0 ≤ x6 then (if (bt x4 x6) = 60 then (topiarylaw11_CharsEscaped.j1 k x0 x3 x4 x5 x6 (bt x4 x6) true) else (if (bt x4 x6) = 62 then (topiarylaw11_CharsEscaped.j1 k x0 x3 x4 x5 x6 (bt x4 x6) true) else (topiarylaw11_CharsEscaped.j1 k x0 x3 x4 x5 x6 (bt x4 x6) ((bt x4 x6) == 34)))) else (none)) else (if x3 = true then (some (x5.toList == x0.toList)) else (some false))
def topiarylaw11_CharsEscaped.j1 : Nat → ByteArray → Bool → ByteArray → ByteArray → Int → Int → Bool → Option (Bool)
  | 0, _, _, _, _, _, _, _ => none
  | k + 1, x0, x3, x4, x5, x6, x7, x31 => if x31 = true then (some false) else (if x7 = 38 then ((chars_Entity.f k x4 x6).bind fun bt172 => (if bt172.2 < 1 then (some false) else (if x5.size + bt172.1.size ≤ 9223372036854775807 then (topiarylaw11_CharsEscaped.l0 k x0 x3 x4 (x5 ++ bt172.1) (wrap64 (x6 + bt172.2))) else (none)))) else (if 0 ≤ x6 then (if x6 ≤ (wrap64 (x6 + 1)) then (if (wrap64 (x6 + 1)) ≤ (x4.size : Int) then (if x5.size + (x4.extract (x6 : Int).toNat ((wrap64 (x6 + 1)) : Int).toNat).size ≤ 9223372036854775807 then (topiarylaw11_CharsEscaped.l0 k x0 x3 x4 (x5 ++ (x4.extract (x6 : Int).toNat ((wrap64 (x6 + 1)) : Int).toNat)) (wrap64 (x6 + 1))) else (none)) else (none)) else (none)) else (none)))
end
def topiarylaw11_CharsEscaped.f (k : Nat) (a0 : ByteArray) : Option (Bool) := (topiarylaw11_awake.f k).bind fun t169 => ((topiarylaw11_short.f a0 40).bind fun t170 => ((chars_Escape.f t170).bind fun t171 => (topiarylaw11_CharsEscaped.l0 k t170 t169 t171 (⟨#[]⟩ : ByteArray) 0)))
theorem topiarylaw11_CharsEscaped.mono_l : ∀ k, (∀ y0 y1 y2 y3 y4, LeO (topiarylaw11_CharsEscaped.l0 k y0 y1 y2 y3 y4) (topiarylaw11_CharsEscaped.l0 (k + 1) y0 y1 y2 y3 y4)) ∧ (∀ y0 y1 y2 y3 y4 y5 y6, LeO (topiarylaw11_CharsEscaped.j1 k y0 y1 y2 y3 y4 y5 y6) (topiarylaw11_CharsEscaped.j1 (k + 1) y0 y1 y2 y3 y4 y5 y6))
  | 0 => ⟨fun _ _ _ _ _ r h => by simp [topiarylaw11_CharsEscaped.l0] at h, fun _ _ _ _ _ _ _ r h => by simp [topiarylaw11_CharsEscaped.j1] at h⟩
  | k + 1 => by
    obtain ⟨ih0, ih1⟩ := topiarylaw11_CharsEscaped.mono_l k
    refine ⟨?_, ?_⟩
    · intro y0 y1 y2 y3 y4
      unfold topiarylaw11_CharsEscaped.l0
      repeat' first
      | (with_reducible exact ih0 _ _ _ _ _)
      | (with_reducible exact ih1 _ _ _ _ _ _ _)
      | (with_reducible exact chars_Entity.mono _ _ _)
      | (with_reducible exact topiarylaw11_awake.mono _)
      | (with_reducible exact LeO.refl _)
      | (with_reducible exact LeO.none _)
      | (with_reducible refine LeO.ite ?_ ?_)
      | (with_reducible refine LeO.bind ?_ (fun _ => ?_))
      | exact ih0 _ _ _ _ _
      | exact ih1 _ _ _ _ _ _ _
      | exact chars_Entity.mono _ _ _
      | exact topiarylaw11_awake.mono _
      | exact LeO.none _
      | refine LeO.ite ?_ ?_
      | refine LeO.bind ?_ (fun _ => ?_)
    · intro y0 y1 y2 y3 y4 y5 y6
      unfold topiarylaw11_CharsEscaped.j1
      repeat' first
      | (with_reducible exact ih0 _ _ _ _ _)
      | (with_reducible exact ih1 _ _ _ _ _ _ _)
      | (with_reducible exact chars_Entity.mono _ _ _)
      | (with_reducible exact topiarylaw11_awake.mono _)
      | (with_reducible exact LeO.refl _)
      | (with_reducible exact LeO.none _)
      | (with_reducible refine LeO.ite ?_ ?_)
      | (with_reducible refine LeO.bind ?_ (fun _ => ?_))
      | exact ih0 _ _ _ _ _
      | exact ih1 _ _ _ _ _ _ _
      | exact chars_Entity.mono _ _ _
      | exact topiarylaw11_awake.mono _
      | exact LeO.none _
      | refine LeO.ite ?_ ?_
      | refine LeO.bind ?_ (fun _ => ?_)
theorem topiarylaw11_CharsEscaped.mono : ∀ a0 k, LeO (topiarylaw11_CharsEscaped.f k a0) (topiarylaw11_CharsEscaped.f (k + 1) a0) := by
  intro a0 k
  obtain ⟨ih0, ih1⟩ := topiarylaw11_CharsEscaped.mono_l k
  unfold topiarylaw11_CharsEscaped.f
  repeat' first
      | (with_reducible exact ih0 _ _ _ _ _)
      | (with_reducible exact ih1 _ _ _ _ _ _ _)
      | (with_reducible exact chars_Entity.mono _ _ _)
      | (with_reducible exact topiarylaw11_awake.mono _)
      | (with_reducible exact LeO.refl _)
      | (with_reducible exact LeO.none _)
      | (with_reducible refine LeO.ite ?_ ?_)
      | (with_reducible refine LeO.bind ?_ (fun _ => ?_))
      | exact ih0 _ _ _ _ _
      | exact ih1 _ _ _ _ _ _ _
      | exact chars_Entity.mono _ _ _
      | exact topiarylaw11_awake.mono _
      | exact LeO.none _
      | refine LeO.ite ?_ ?_
      | refine LeO.bind ?_ (fun _ => ?_)
set_option maxHeartbeats 8000000 in
set_option maxRecDepth 100000 in
theorem topiarylaw11_CharsEscaped.calls (k : Nat) (a0 : ByteArray) (r : Bool) (w : World) (h : topiarylaw11_CharsEscaped.f k a0 = some r) :
    Calls Try.prog 5 #[.string a0] w fun e w' => e = .returned (.bool r) ∧ Below w.heap.size w w' := by
  have HB := Aside0.mk (Below.refl w.heap.size w)
  have H : ((topiarylaw11_awake.f k).bind fun t169 => ((topiarylaw11_short.f a0 40).bind fun t170 => ((chars_Escape.f t170).bind fun t171 => (topiarylaw11_CharsEscaped.l0 k t170 t169 t171 (⟨#[]⟩ : ByteArray) 0)))) = some r := h
  clear h
  replace H := Option.bind_eq_some_iff.mp H
  obtain ⟨t169, A20, H⟩ := H
  replace H : ((topiarylaw11_short.f a0 40).bind fun t170 => ((chars_Escape.f t170).bind fun t171 => (topiarylaw11_CharsEscaped.l0 k t170 t169 t171 (⟨#[]⟩ : ByteArray) 0))) = some r := H
  have A2 := Aside0.mk A20
  clear A20
  replace H := Option.bind_eq_some_iff.mp H
  obtain ⟨t170, A30, H⟩ := H
  replace H : ((chars_Escape.f t170).bind fun t171 => (topiarylaw11_CharsEscaped.l0 k t170 t169 t171 (⟨#[]⟩ : ByteArray) 0)) = some r := H
  have A3 := Aside0.mk A30
  clear A30
  replace H := Option.bind_eq_some_iff.mp H
  obtain ⟨t171, A40, H⟩ := H
  replace H : (topiarylaw11_CharsEscaped.l0 k t170 t169 t171 (⟨#[]⟩ : ByteArray) 0) = some r := H
  have A4 := Aside0.mk A40
  clear A40
  have H' := Aside0.mk H
  clear H
  go_enter Try.func5, Try.ntmps5
  go_wp2_with (first | ((with_reducible refine gate_callee (f := 16) rfl ?_); refine goesL_ (some 10) rfl rfl Try.func16 (by kernel_rfl) rfl #[] rfl (by (try simp only [List.map_toArray, List.map_cons, List.map_nil]); first | done | rfl | (simp only [List.length_drop, List.length_take]; rfl)) ?_; (with_reducible refine (topiarylaw11_awake.calls k  t169 _ A2.out).mono ?_); rintro e w5 ⟨rfl, hb⟩; refine ⟨_, rfl, ?_⟩; have n0_ := Aside0.mk (below_step (by repeat (first | (with_reducible first | exact HB.out | apply below_alloc | apply pw_below_drewN | apply below_drew1) | exact HB.out)) hb); clear HB; have HB := n0_; clear n0_; (try clear hb); (try clear hb2); (try clear hk); (try clear hi)) | ((with_reducible refine gate_callee (f := 17) rfl ?_); refine goesL_ (some 12) rfl rfl Try.func17 (by kernel_rfl) rfl #[.string a0, .int .i64 40] rfl (by (try simp only [List.map_toArray, List.map_cons, List.map_nil]); first | done | rfl | (simp only [List.length_drop, List.length_take]; rfl)) ?_; (with_reducible refine (topiarylaw11_short.calls a0 40 t170 _ A3.out).mono ?_); rintro e w' ⟨rfl, ⟨nd, rfl⟩⟩; refine ⟨_, rfl, ?_⟩) | ((with_reducible refine gate_callee (f := 20) rfl ?_); refine goesL_ (some 14) rfl rfl Try.func20 (by kernel_rfl) rfl #[.string t170] rfl (by (try simp only [List.map_toArray, List.map_cons, List.map_nil]); first | done | rfl | (simp only [List.length_drop, List.length_take]; rfl)) ?_; (with_reducible refine (chars_Escape.calls t170 t171 _ A4.out).mono ?_); rintro e w6 ⟨rfl, hb⟩; refine ⟨_, rfl, ?_⟩; have n0_ := Aside0.mk (below_step (by repeat (first | (with_reducible first | exact HB.out | apply below_alloc | apply pw_below_drewN | apply below_drew1) | exact HB.out)) hb); clear HB; have HB := n0_; clear n0_; (try clear hb); (try clear hb2); (try clear hk); (try clear hi)))
  go_loopg [5, 6] k (fun kq v5 v6 w' => ∃ (x5_1 : ByteArray) (x6_1 : Int), v5 = .string x5_1 ∧ v6 = .int .i64 x6_1 ∧ Aside0 (topiarylaw11_CharsEscaped.l0 kq t170 t169 t171 x5_1 x6_1 = some r) ∧ Aside0 (kq ≤ k) ∧ Aside0 (Below w.heap.size w w'))
  case atStart => exact ⟨((⟨#[]⟩ : ByteArray)), (0), (by first | rfl | (simp; done) | (simp [*]; done)), (by first | rfl | (simp; done) | (simp [*]; done)), H', ⟨Nat.le_refl _⟩, ⟨by repeat (first | (with_reducible first | exact HB.out | apply below_alloc | apply pw_below_drewN | apply below_drew1) | exact HB.out)⟩⟩
  case round =>
    clear H'
    try clear c1
    try clear c2
    try clear p2
    try clear c5
    obtain ⟨x5_1, x6_1, rfl, rfl, HA, HK1, HB⟩ := hrel
    cases gk with
    | zero => exact absurd HA.out (by simp [topiarylaw11_CharsEscaped.l0])
    | succ k1 =>
      have H := HA.out
      clear HA
      simp only [topiarylaw11_CharsEscaped.l0] at H
      by_cases c7 : x6_1 < (t171.size : Int)
      · rw [if_pos c7] at H
        have c7b0 : decide (x6_1 < (t171.size : Int)) = true := decide_eq_true c7
        clear c7
        by_cases c8 : 0 ≤ x6_1
        · rw [if_pos c8] at H
          have c8b0 : decide (0 ≤ x6_1) = true := decide_eq_true c8
          clear c8
          have HC10 := Aside0.mk H
          clear H
          have p9 : 0 ≤ (x6_1 : Int) := of_decide_eq_true (by first | (with_reducible assumption) | assumption)
          have q9 : x6_1 < (t171.size : Int) := of_decide_eq_true (by first | (with_reducible assumption) | assumption)
          have hx9 := bt_at t171 x6_1
          replace p9 := eq_true p9
          replace q9 := eq_true q9
          go_upto_region 8 with (fail)
          go_cut [31] (fun v31 wc => ∃ (kq : Nat) (x31_9 : Bool), v31 = .bool x31_9 ∧ Aside0 (topiarylaw11_CharsEscaped.j1 kq t170 t169 t171 x5_1 x6_1 (bt t171 x6_1) x31_9 = some r) ∧ Aside0 (kq ≤ k1) ∧ Aside0 (Below w.heap.size w wc))
          case first =>
            have H := HC10.out
            clear HC10
            by_cases c11 : (bt t171 x6_1) = 60
            · rw [if_pos c11] at H
              have c11b0 : ((bt t171 x6_1) == 60) = true := beq_iff_eq.mpr c11
              have c11b1 : ((bt t171 x6_1) != 60) = false := bne_eq_false_iff_eq.mpr c11
              clear c11
              (first | rw [c11b0] | (simp only [i64_w, i32_w]; rw [c11b0]) | skip)
              have H' := Aside0.mk H
              clear H
              go_wp2
              go_meet
              case rel => exact ⟨_, (true), (by first | rfl | (simp; done) | (simp [*]; done)), H', ⟨by have := HK1.out; first | omega | exact Nat.le_refl _⟩, ⟨by repeat (first | (with_reducible first | exact HB.out | apply below_alloc | apply pw_below_drewN | apply below_drew1) | exact HB.out)⟩⟩
            · rw [if_neg c11] at H
              have c11b0 : ((bt t171 x6_1) == 60) = false := beq_eq_false_iff_ne.mpr c11
              have c11b1 : ((bt t171 x6_1) != 60) = true := bne_iff_ne.mpr c11
              (first | rw [c11b0] | (simp only [i64_w, i32_w]; rw [c11b0]) | skip)
              by_cases c12 : (bt t171 x6_1) = 62
              · rw [if_pos c12] at H
                have c12b0 : ((bt t171 x6_1) == 62) = true := beq_iff_eq.mpr c12
                have c12b1 : ((bt t171 x6_1) != 62) = false := bne_eq_false_iff_eq.mpr c12
                clear c12
                have H' := Aside0.mk H
                clear H
                go_wp2
                go_meet
                case rel => exact ⟨_, (true), (by first | rfl | (simp; done) | (simp [*]; done)), H', ⟨by have := HK1.out; first | omega | exact Nat.le_refl _⟩, ⟨by repeat (first | (with_reducible first | exact HB.out | apply below_alloc | apply pw_below_drewN | apply below_drew1) | exact HB.out)⟩⟩
              · rw [if_neg c12] at H
                have c12b0 : ((bt t171 x6_1) == 62) = false := beq_eq_false_iff_ne.mpr c12
                have c12b1 : ((bt t171 x6_1) != 62) = true := bne_iff_ne.mpr c12
                have H' := Aside0.mk H
                clear H
                go_wp2
                go_meet
                case rel => exact ⟨_, (((bt t171 x6_1) == 34)), (by first | rfl | (simp; done) | (simp [*]; done)), H', ⟨by have := HK1.out; first | omega | exact Nat.le_refl _⟩, ⟨by repeat (first | (with_reducible first | exact HB.out | apply below_alloc | apply pw_below_drewN | apply below_drew1) | exact HB.out)⟩⟩
          case rest =>
            clear HC10
            try clear c1
            try clear c2
            try clear p2
            try clear c5
            try clear c7
            try clear c7b0
            try clear c8
            try clear c8b0
            try clear p9
            try clear q9
            try clear hx9
            try clear c11
            try clear c11b0
            try clear c11b1
            try clear c12
            try clear c12b0
            try clear c12b1
            try clear p2
            try clear p9
            try clear q9
            obtain ⟨kq, x31_9, rfl, HA, HJ9, HB⟩ := hcut
            cases kq with
            | zero => exact absurd HA.out (by simp [topiarylaw11_CharsEscaped.j1])
            | succ kj9 =>
              have H := HA.out
              clear HA
              simp only [topiarylaw11_CharsEscaped.j1] at H
              by_cases c13 : x31_9 = true
              · subst c13
                have H1 : (some false) = some r := by rw [if_pos rfl] at H; exact H
                clear H
                have H := H1
                clear H1
                obtain rfl := Option.some.inj H
                go_wp2
                go_ret
                exact ⟨by first | rfl | (simp [errW_none, errW_some] <;> rfl) | (simp [*, errW_none, errW_some] <;> rfl), by repeat (first | (with_reducible first | exact HB.out | apply below_alloc | apply pw_below_drewN | apply below_drew1) | exact HB.out)⟩
              · replace c13 := Bool.eq_false_iff.mpr c13
                subst c13
                have H1 : (if (bt t171 x6_1) = 38 then ((chars_Entity.f kj9 t171 x6_1).bind fun bt172 => (if bt172.2 < 1 then (some false) else (if x5_1.size + bt172.1.size ≤ 9223372036854775807 then (topiarylaw11_CharsEscaped.l0 kj9 t170 t169 t171 (x5_1 ++ bt172.1) (wrap64 (x6_1 + bt172.2))) else (none)))) else (if 0 ≤ x6_1 then (if x6_1 ≤ (wrap64 (x6_1 + 1)) then (if (wrap64 (x6_1 + 1)) ≤ (t171.size : Int) then (if x5_1.size + (t171.extract (x6_1 : Int).toNat ((wrap64 (x6_1 + 1)) : Int).toNat).size ≤ 9223372036854775807 then (topiarylaw11_CharsEscaped.l0 kj9 t170 t169 t171 (x5_1 ++ (t171.extract (x6_1 : Int).toNat ((wrap64 (x6_1 + 1)) : Int).toNat)) (wrap64 (x6_1 + 1))) else (none)) else (none)) else (none)) else (none))) = some r := by rw [if_neg (show ¬ (false = true) by decide)] at H; exact H
                clear H
                have H := H1
                clear H1
                by_cases c14 : (bt t171 x6_1) = 38
                · rw [if_pos c14] at H
                  have c14b0 : ((bt t171 x6_1) == 38) = true := beq_iff_eq.mpr c14
                  have c14b1 : ((bt t171 x6_1) != 38) = false := bne_eq_false_iff_eq.mpr c14
                  clear c14
                  replace H := Option.bind_eq_some_iff.mp H
                  obtain ⟨⟨t172, t173⟩, A150, H⟩ := H
                  replace H : (if t173 < 1 then (some false) else (if x5_1.size + t172.size ≤ 9223372036854775807 then (topiarylaw11_CharsEscaped.l0 kj9 t170 t169 t171 (x5_1 ++ t172) (wrap64 (x6_1 + t173))) else (none))) = some r := H
                  have A15 := Aside0.mk A150
                  clear A150
                  by_cases c16 : t173 < 1
                  · rw [if_pos c16] at H
                    have c16b0 : decide (t173 < 1) = true := decide_eq_true c16
                    clear c16
                    obtain rfl := Option.some.inj H
                    go_wp2_with (first | ((with_reducible refine gate_callee (f := 18) rfl ?_); refine goesL_ (some 46) rfl rfl Try.func18 (by kernel_rfl) rfl #[.string t171, .int .i64 x6_1] rfl (by (try simp only [List.map_toArray, List.map_cons, List.map_nil]); first | done | rfl | (simp only [List.length_drop, List.length_take]; rfl)) ?_; (with_reducible refine (chars_Entity.calls kj9 t171 x6_1 t172 t173 _ A15.out).mono ?_); rintro e w17 ⟨rfl, hb⟩; refine ⟨_, rfl, ?_⟩; have n0_ := Aside0.mk (below_step (by repeat (first | (with_reducible first | exact HB.out | apply below_alloc | apply pw_below_drewN | apply below_drew1) | exact HB.out)) hb); clear HB; have HB := n0_; clear n0_; (try clear hb); (try clear hb2); (try clear hk); (try clear hi)))
                    go_ret
                    exact ⟨by first | rfl | (simp [errW_none, errW_some] <;> rfl) | (simp [*, errW_none, errW_some] <;> rfl), by repeat (first | (with_reducible first | exact HB.out | apply below_alloc | apply pw_below_drewN | apply below_drew1) | exact HB.out)⟩
                  · rw [if_neg c16] at H
                    have c16b0 : decide (t173 < 1) = false := decide_eq_false c16
                    clear c16
                    by_cases c18 : x5_1.size + t172.size ≤ 9223372036854775807
                    · rw [if_pos c18] at H
                      have c18b0 := eq_true c18
                      have c18b1 : decide (x5_1.size + t172.size ≤ 9223372036854775807) = true := decide_eq_true c18
                      try have c18b2 : (9223372036854775807 < x5_1.size + t172.size) = False := eq_false (Nat.not_lt.2 c18)
                      have H' := Aside0.mk H
                      clear H
                      go_wp2_with (first | ((with_reducible refine gate_callee (f := 18) rfl ?_); refine goesL_ (some 46) rfl rfl Try.func18 (by kernel_rfl) rfl #[.string t171, .int .i64 x6_1] rfl (by (try simp only [List.map_toArray, List.map_cons, List.map_nil]); first | done | rfl | (simp only [List.length_drop, List.length_take]; rfl)) ?_; (with_reducible refine (chars_Entity.calls kj9 t171 x6_1 t172 t173 _ A15.out).mono ?_); rintro e w19 ⟨rfl, hb⟩; refine ⟨_, rfl, ?_⟩; have n0_ := Aside0.mk (below_step (by repeat (first | (with_reducible first | exact HB.out | apply below_alloc | apply pw_below_drewN | apply below_drew1) | exact HB.out)) hb); clear HB; have HB := n0_; clear n0_; (try clear hb); (try clear hb2); (try clear hk); (try clear hi)))
                      go_roundg kj9
                      case measure => have := HK1.out; have := HJ9.out; omega
                      case rel => exact ⟨(x5_1 ++ t172), (wrap64 (x6_1 + t173)), (by first | rfl | (simp; done) | (simp [*]; done)), (by first | rfl | (simp; done) | (simp [*]; done)), H', ⟨by have := HK1.out; have := HJ9.out; omega⟩, ⟨by repeat (first | (with_reducible first | exact HB.out | apply below_alloc | apply pw_below_drewN | apply below_drew1) | exact HB.out)⟩⟩
                    · rw [if_neg c18] at H
                      exact absurd H (by simp)
                · rw [if_neg c14] at H
                  have c14b0 : ((bt t171 x6_1) == 38) = false := beq_eq_false_iff_ne.mpr c14
                  have c14b1 : ((bt t171 x6_1) != 38) = true := bne_iff_ne.mpr c14
                  by_cases c20 : 0 ≤ x6_1
                  · rw [if_pos c20] at H
                    have c20b0 := eq_true c20
                    have c20b1 : decide (0 ≤ x6_1) = true := decide_eq_true c20
                    clear c20
                    by_cases c21 : x6_1 ≤ (wrap64 (x6_1 + 1))
                    · rw [if_pos c21] at H
                      have c21b0 := eq_true c21
                      have c21b1 : decide (x6_1 ≤ (wrap64 (x6_1 + 1))) = true := decide_eq_true c21
                      by_cases c22 : (wrap64 (x6_1 + 1)) ≤ (t171.size : Int)
                      · rw [if_pos c22] at H
                        have c22b0 := eq_true c22
                        have c22b1 : decide ((wrap64 (x6_1 + 1)) ≤ (t171.size : Int)) = true := decide_eq_true c22
                        by_cases c23 : x5_1.size + (t171.extract (x6_1 : Int).toNat ((wrap64 (x6_1 + 1)) : Int).toNat).size ≤ 9223372036854775807
                        · rw [if_pos c23] at H
                          have c23b0 := eq_true c23
                          have c23b1 : decide (x5_1.size + (t171.extract (x6_1 : Int).toNat ((wrap64 (x6_1 + 1)) : Int).toNat).size ≤ 9223372036854775807) = true := decide_eq_true c23
                          try have c23b2 : (9223372036854775807 < x5_1.size + (t171.extract (x6_1 : Int).toNat ((wrap64 (x6_1 + 1)) : Int).toNat).size) = False := eq_false (Nat.not_lt.2 c23)
                          have H' := Aside0.mk H
                          clear H
                          go_wp2
                          go_roundg kj9
                          case measure => have := HK1.out; have := HJ9.out; omega
                          case rel => exact ⟨(x5_1 ++ (t171.extract (x6_1 : Int).toNat ((wrap64 (x6_1 + 1)) : Int).toNat)), (wrap64 (x6_1 + 1)), (by first | rfl | (simp; done) | (simp [*]; done)), (by first | rfl | (simp; done) | (simp [*]; done)), H', ⟨by have := HK1.out; have := HJ9.out; omega⟩, ⟨by repeat (first | (with_reducible first | exact HB.out | apply below_alloc | apply pw_below_drewN | apply below_drew1) | exact HB.out)⟩⟩
                        · rw [if_neg c23] at H
                          exact absurd H (by simp)
                      · rw [if_neg c22] at H
                        exact absurd H (by simp)
                    · rw [if_neg c21] at H
                      exact absurd H (by simp)
                  · rw [if_neg c20] at H
                    exact absurd H (by simp)
        · rw [if_neg c8] at H
          exact absurd H (by simp)
      · rw [if_neg c7] at H
        have c7b0 : decide (x6_1 < (t171.size : Int)) = false := decide_eq_false c7
        clear c7
        by_cases c24 : t169 = true
        · subst c24
          have H1 : (some (x5_1.toList == t170.toList)) = some r := by rw [if_pos rfl] at H; exact H
          clear H
          have H := H1
          clear H1
          obtain rfl := Option.some.inj H
          go_wp2
          go_ret
          exact ⟨by first | rfl | (simp [errW_none, errW_some] <;> rfl) | (simp [*, errW_none, errW_some] <;> rfl), by repeat (first | (with_reducible first | exact HB.out | apply below_alloc | apply pw_below_drewN | apply below_drew1) | exact HB.out)⟩
        · replace c24 := Bool.eq_false_iff.mpr c24
          subst c24
          have H1 : (some false) = some r := by rw [if_neg (show ¬ (false = true) by decide)] at H; exact H
          clear H
          have H := H1
          clear H1
          obtain rfl := Option.some.inj H
          go_wp2
          go_ret
          exact ⟨by first | rfl | (simp [errW_none, errW_some] <;> rfl) | (simp [*, errW_none, errW_some] <;> rfl), by repeat (first | (with_reducible first | exact HB.out | apply below_alloc | apply pw_below_drewN | apply below_drew1) | exact HB.out)⟩

/-- THE ONE PURE STATEMENT of topiarylaw11_CharsEscaped: yours. -/
def topiarylaw11_CharsEscaped.Pure : Prop := ∀ (a0 : ByteArray), a0.size ≤ 140737488351232 → ∃ k, topiarylaw11_CharsEscaped.f k a0 = some true
theorem topiarylaw11_CharsEscaped.walk (P : topiarylaw11_CharsEscaped.Pure) (a0 : ByteArray) (w : World) (w0 : a0.size ≤ 140737488351232) :
    Calls Try.prog 5 #[.string a0] w fun e w' => e = .returned (.bool true) ∧ Below w.heap.size w w' := by
  obtain ⟨k, h⟩ := P a0 w0
  refine (topiarylaw11_CharsEscaped.calls k a0 true w h).mono ?_
  rintro e w' ⟨rfl, hd⟩
  exact ⟨rfl, hd⟩

end Go.Proofs.Ytekkaoenabjeiaa.Q
