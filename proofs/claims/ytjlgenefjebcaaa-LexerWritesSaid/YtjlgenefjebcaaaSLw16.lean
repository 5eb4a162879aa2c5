/- Parts of the proof of lexerWrites_holds, kept and merged by a program of mine (wip/tools/slim.py) out of my texts: Q7 P11v LexJ Q10 P12w -/
import Derived.Test.YtjlgenefjebcaaaSLw4
import Derived.Test.YtjlgenefjebcaaaSLw8
import Derived.Test.YtjlgenefjebcaaaSLw15
import Derived.Test.YtjlgenefjebcaaaSLw11
import Derived.Test.YtjlgenefjebcaaaSLw5
import Derived.Test.YtjlgenefjebcaaaSLw14
section
namespace Go.Proofs.Ytjlgenefjebcaaa.X
end Go.Proofs.Ytjlgenefjebcaaa.X
namespace Go.Proofs.Ytjlgenefjebcaaa.Q
open Go.RowKit Go.Proofs.YtjlgenefjebcaaaW.PrintWords Go.Proofs.YtjlgenefjebcaaaW.PrintLast Go.Proofs.YtjlgenefjebcaaaW.PrintMore
attribute [local go_sem] max2_int min2_int max_two min_two max_three min_three max_four min_four   
open Go.Proofs.Ytjlgenefjebcaaa.X
set_option linter.unusedVariables false
set_option linter.unusedSimpArgs false
def chars_Valid.l0 : Nat → ByteArray → Option (Bool)
  | 0, _ => none
  | k + 1, x0 => if (x0.size : Int) > 0 then ((chars_Rune.f x0 0).bind fun bt142 => (if bt142.2 = 0 then (some false) else ((chars_Allowed.f k bt142.1).bind fun t144 => (if t144 = true then (if 0 ≤ bt142.2 then (if bt142.2 ≤ (x0.size : Int) then (chars_Valid.l0 k (x0.extract (bt142.2 : Int).toNat x0.size)) else (none)) else (none)) else (some false))))) else (some true)
def chars_Valid.f (k : Nat) (a0 : ByteArray) : Option (Bool) := chars_Valid.l0 k a0
theorem chars_Valid.mono_l : ∀ k, (∀ y0, LeO (chars_Valid.l0 k y0) (chars_Valid.l0 (k + 1) y0))
  | 0 => fun _ r h => by simp [chars_Valid.l0] at h
  | k + 1 => by
    have ih0 := chars_Valid.mono_l k
    · intro y0
      unfold chars_Valid.l0
      repeat' first
      | (with_reducible exact ih0 _)
      | (with_reducible exact chars_Allowed.mono _ _)
      | (with_reducible exact LeO.refl _)
      | (with_reducible exact LeO.none _)
      | (with_reducible refine LeO.ite ?_ ?_)
      | (with_reducible refine LeO.bind ?_ (fun _ => ?_))
      | exact ih0 _
      | exact chars_Allowed.mono _ _
      | exact LeO.none _
      | refine LeO.ite ?_ ?_
      | refine LeO.bind ?_ (fun _ => ?_)
theorem chars_Valid.mono : ∀ a0 k, LeO (chars_Valid.f k a0) (chars_Valid.f (k + 1) a0) := by
  intro a0 k
  have ih0 := chars_Valid.mono_l k
  unfold chars_Valid.f
  repeat' first
      | (with_reducible exact ih0 _)
      | (with_reducible exact chars_Allowed.mono _ _)
      | (with_reducible exact LeO.refl _)
      | (with_reducible exact LeO.none _)
      | (with_reducible refine LeO.ite ?_ ?_)
      | (with_reducible refine LeO.bind ?_ (fun _ => ?_))
      | exact ih0 _
      | exact chars_Allowed.mono _ _
      | exact LeO.none _
      | refine LeO.ite ?_ ?_
      | refine LeO.bind ?_ (fun _ => ?_)
set_option maxHeartbeats 8000000 in
set_option maxRecDepth 100000 in
theorem chars_Valid.calls (k : Nat) (a0 : ByteArray) (r : Bool) (w : World) (h : chars_Valid.f k a0 = some r) :
    Calls Try.prog 42 #[.string a0] w fun e w' => e = .returned (.bool r) ∧ Below w.heap.size w w' := by
  have HB := Aside0.mk (Below.refl w.heap.size w)
  have H : (chars_Valid.l0 k a0) = some r := h
  clear h
  have H' := Aside0.mk H
  clear H
  go_enter Try.func42, Try.ntmps42
  go_wp2
  go_loopg [0] k (fun kq v0 w' => ∃ (x0_1 : ByteArray), v0 = .string x0_1 ∧ Aside0 (chars_Valid.l0 kq x0_1 = some r) ∧ Aside0 (kq ≤ k) ∧ Aside0 (Below w.heap.size w w'))
  case atStart => exact ⟨(a0), (by first | rfl | (simp; done) | (simp [*]; done)), H', ⟨Nat.le_refl _⟩, ⟨by repeat (first | (with_reducible first | exact HB.out | apply below_alloc | apply pw_below_drewN | apply below_drew1) | exact HB.out)⟩⟩
  case round =>
    clear H'
    obtain ⟨x0_1, rfl, HA, HK1, HB⟩ := hrel
    cases gk with
    | zero => exact absurd HA.out (by simp [chars_Valid.l0])
    | succ k1 =>
      have H := HA.out
      clear HA
      simp only [chars_Valid.l0] at H
      by_cases c2 : (x0_1.size : Int) > 0
      · rw [if_pos c2] at H
        have c2b0 : decide (0 < (x0_1.size : Int)) = true := decide_eq_true c2
        have c2b1 : decide (0 < x0_1.size) = true := decide_eq_true (by omega)
        clear c2
        replace H := Option.bind_eq_some_iff.mp H
        obtain ⟨⟨t142, t143⟩, A30, H⟩ := H
        replace H : (if t143 = 0 then (some false) else ((chars_Allowed.f k1 t142).bind fun t144 => (if t144 = true then (if 0 ≤ t143 then (if t143 ≤ (x0_1.size : Int) then (chars_Valid.l0 k1 (x0_1.extract (t143 : Int).toNat x0_1.size)) else (none)) else (none)) else (some false)))) = some r := H
        have A3 := Aside0.mk A30
        clear A30
        by_cases c4 : t143 = 0
        · rw [if_pos c4] at H
          have c4b0 : (t143 == 0) = true := beq_iff_eq.mpr c4
          have c4b1 : (t143 != 0) = false := bne_eq_false_iff_eq.mpr c4
          clear c4
          obtain rfl := Option.some.inj H
          go_wp2_with (first | ((with_reducible refine gate_callee (f := 24) rfl ?_); refine goesL_ (some 10) rfl rfl Try.func24 (by kernel_rfl) rfl #[.string x0_1, .int .i64 0] rfl (by (try simp only [List.map_toArray, List.map_cons, List.map_nil]); first | done | rfl | (simp only [List.length_drop, List.length_take]; rfl)) ?_; (with_reducible refine (chars_Rune.calls x0_1 0 t142 t143 _ A3.out).mono ?_); rintro e w5 ⟨rfl, hb⟩; refine ⟨_, rfl, ?_⟩; have n0_ := Aside0.mk (below_step (by repeat (first | (with_reducible first | exact HB.out | apply below_alloc | apply pw_below_drewN | apply below_drew1) | exact HB.out)) hb); clear HB; have HB := n0_; clear n0_; (try clear hb); (try clear hb2); (try clear hk); (try clear hi)))
          go_ret
          exact ⟨by first | rfl | (simp [errW_none, errW_some] <;> rfl) | (simp [*, errW_none, errW_some] <;> rfl), by repeat (first | (with_reducible first | exact HB.out | apply below_alloc | apply pw_below_drewN | apply below_drew1) | exact HB.out)⟩
        · rw [if_neg c4] at H
          have c4b0 : (t143 == 0) = false := beq_eq_false_iff_ne.mpr c4
          have c4b1 : (t143 != 0) = true := bne_iff_ne.mpr c4
          replace H := Option.bind_eq_some_iff.mp H
          obtain ⟨t144, A60, H⟩ := H
          replace H : (if t144 = true then (if 0 ≤ t143 then (if t143 ≤ (x0_1.size : Int) then (chars_Valid.l0 k1 (x0_1.extract (t143 : Int).toNat x0_1.size)) else (none)) else (none)) else (some false)) = some r := H
          have A6 := Aside0.mk A60
          clear A60
          by_cases c7 : t144 = true
          · subst c7
            have H1 : (if 0 ≤ t143 then (if t143 ≤ (x0_1.size : Int) then (chars_Valid.l0 k1 (x0_1.extract (t143 : Int).toNat x0_1.size)) else (none)) else (none)) = some r := by rw [if_pos rfl] at H; exact H
            clear H
            have H := H1
            clear H1
            by_cases c8 : 0 ≤ t143
            · rw [if_pos c8] at H
              have c8b0 := eq_true c8
              have c8b1 : decide (0 ≤ t143) = true := decide_eq_true c8
              clear c8
              by_cases c9 : t143 ≤ (x0_1.size : Int)
              · rw [if_pos c9] at H
                have c9b0 := eq_true c9
                have c9b1 : decide (t143 ≤ (x0_1.size : Int)) = true := decide_eq_true c9
                clear c9
                have H' := Aside0.mk H
                clear H
                go_wp2_with (first | ((with_reducible refine gate_callee (f := 24) rfl ?_); refine goesL_ (some 10) rfl rfl Try.func24 (by kernel_rfl) rfl #[.string x0_1, .int .i64 0] rfl (by (try simp only [List.map_toArray, List.map_cons, List.map_nil]); first | done | rfl | (simp only [List.length_drop, List.length_take]; rfl)) ?_; (with_reducible refine (chars_Rune.calls x0_1 0 t142 t143 _ A3.out).mono ?_); rintro e w10 ⟨rfl, hb⟩; refine ⟨_, rfl, ?_⟩; have n0_ := Aside0.mk (below_step (by repeat (first | (with_reducible first | exact HB.out | apply below_alloc | apply pw_below_drewN | apply below_drew1) | exact HB.out)) hb); clear HB; have HB := n0_; clear n0_; (try clear hb); (try clear hb2); (try clear hk); (try clear hi)) | (go_at_call 50; (with_reducible refine (chars_Allowed.calls k1 t142 true _ A6.out).mono ?_); rintro e w' ⟨rfl, ⟨nd, rfl⟩⟩))
                go_roundg k1
                case measure => have := HK1.out; omega
                case rel => exact ⟨(x0_1.extract (t143 : Int).toNat x0_1.size), (by first | rfl | (simp; done) | (simp [*]; done)), H', ⟨by have := HK1.out; omega⟩, ⟨by repeat (first | (with_reducible first | exact HB.out | apply below_alloc | apply pw_below_drewN | apply below_drew1) | exact HB.out)⟩⟩
              · rw [if_neg c9] at H
                exact absurd H (by simp)
            · rw [if_neg c8] at H
              exact absurd H (by simp)
          · replace c7 := Bool.eq_false_iff.mpr c7
            subst c7
            have H1 : (some false) = some r := by rw [if_neg (show ¬ (false = true) by decide)] at H; exact H
            clear H
            have H := H1
            clear H1
            obtain rfl := Option.some.inj H
            go_wp2_with (first | ((with_reducible refine gate_callee (f := 24) rfl ?_); refine goesL_ (some 10) rfl rfl Try.func24 (by kernel_rfl) rfl #[.string x0_1, .int .i64 0] rfl (by (try simp only [List.map_toArray, List.map_cons, List.map_nil]); first | done | rfl | (simp only [List.length_drop, List.length_take]; rfl)) ?_; (with_reducible refine (chars_Rune.calls x0_1 0 t142 t143 _ A3.out).mono ?_); rintro e w11 ⟨rfl, hb⟩; refine ⟨_, rfl, ?_⟩; have n0_ := Aside0.mk (below_step (by repeat (first | (with_reducible first | exact HB.out | apply below_alloc | apply pw_below_drewN | apply below_drew1) | exact HB.out)) hb); clear HB; have HB := n0_; clear n0_; (try clear hb); (try clear hb2); (try clear hk); (try clear hi)) | (go_at_call 50; (with_reducible refine (chars_Allowed.calls k1 t142 false _ A6.out).mono ?_); rintro e w' ⟨rfl, ⟨nd, rfl⟩⟩))
            go_ret
            exact ⟨by first | rfl | (simp [errW_none, errW_some] <;> rfl) | (simp [*, errW_none, errW_some] <;> rfl), by repeat (first | (with_reducible first | exact HB.out | apply below_alloc | apply pw_below_drewN | apply below_drew1) | exact HB.out)⟩
      · rw [if_neg c2] at H
        have c2b0 : decide (0 < (x0_1.size : Int)) = false := decide_eq_false c2
        have c2b1 : decide (0 < x0_1.size) = false := decide_eq_false (by omega)
        clear c2
        obtain rfl := Option.some.inj H
        go_wp2
        go_ret
        exact ⟨by first | rfl | (simp [errW_none, errW_some] <;> rfl) | (simp [*, errW_none, errW_some] <;> rfl), by repeat (first | (with_reducible first | exact HB.out | apply below_alloc | apply pw_below_drewN | apply below_drew1) | exact HB.out)⟩
end Go.Proofs.Ytjlgenefjebcaaa.Q
end
section
set_option linter.unusedVariables false
set_option linter.unusedSimpArgs false
namespace Go.Proofs.Ytjlgenefjebcaaa.P11
open Go Go.RowKit Go.Proofs.Ytjlgenefjebcaaa Go.Proofs.Ytjlgenefjebcaaa.Q Go.Proofs.YtjlgenefjebcaaaW.PrintWords Go.Proofs.Ytjlgenefjebcaaa.X
theorem valid_at (s : ByteArray) (n : Nat) (hn : n < s.size) : validL (s.data.toList.drop n) = (decide (0 < (runeP s.data.toList n).2) && allowedB (runeP s.data.toList n).1 && validL (s.data.toList.drop (n + (runeP s.data.toList n).2.toNat))) := by
  have hp : runeP s.data.toList (n : Int) = decL (s.data.toList.drop n) := by
    unfold runeP
    rw [if_pos ⟨by omega, by rw [clen]; omega⟩, Int.toNat_natCast]
  rw [hp, cdrop_cons s n hn, valid_cons, ← cdrop_cons s n hn, List.drop_drop]
theorem valid_l0 (d : Nat) : ∀ (s : ByteArray) (k : Nat), s.size = d → s.size ≤ 4294967296 → d + 2 ≤ k → chars_Valid.l0 k s = some (validL s.data.toList) := by
  induction d using Nat.strongRecOn with
  | ind d ih =>
    intro s k hd hs hk
    obtain ⟨k, rfl⟩ : ∃ m, k = m + 2 := ⟨k - 2, by omega⟩
    rw [chars_Valid.l0]
    by_cases hlt : 0 < s.size
    · rw [if_pos (by omega), chars_Rune.f, if_pos hs, Option.bind_some]
      have hv := valid_at s 0 hlt
      have hp : runeP s.data.toList ((0 : Nat) : Int) = decL (s.data.toList.drop 0) := by
        unfold runeP
        rw [if_pos ⟨by omega, by rw [clen]; omega⟩, Int.toNat_natCast]
      have hr := dec_range (s.data.toList.drop 0)
      rw [← hp, List.length_drop, clen] at hr
      rw [List.drop_zero, Nat.zero_add] at hv
      have e0 : ((0 : Nat) : Int) = 0 := rfl
      rw [e0] at hv hr
      rw [hv]
      by_cases h0 : (runeP s.data.toList 0).2 = 0
      · rw [if_pos h0, h0]; rfl
      · rw [if_neg h0, callowed_f, Option.bind_some, show decide (0 < (runeP s.data.toList 0).2) = true from by simp; omega, Bool.true_and]
        by_cases ha : allowedB (runeP s.data.toList 0).1 = true
        · rw [if_pos ha, ha, Bool.true_and, if_pos (by omega), if_pos (by omega)]
          have hdat : (s.extract (runeP s.data.toList 0).2.toNat s.size).data.toList = s.data.toList.drop (runeP s.data.toList 0).2.toNat := by
            rw [Lib.extract_data, List.take_of_length_le (by rw [List.length_drop, clen]; exact Nat.le_refl _)]
          have hsz : (s.extract (runeP s.data.toList 0).2.toNat s.size).size = s.size - (runeP s.data.toList 0).2.toNat := by rw [Lib.size_eq, hdat, List.length_drop, clen]
          rw [← hdat]
          exact ih (s.size - (runeP s.data.toList 0).2.toNat) (by omega) _ _ hsz (by omega) (by omega)
        · rw [if_neg ha, show allowedB (runeP s.data.toList 0).1 = false from by simpa using ha]; rfl
    · have : s.data.toList = [] := List.eq_nil_of_length_eq_zero (by rw [clen]; omega)
      rw [if_neg (by omega), this]; rfl
theorem valid_f (s : ByteArray) (hs : s.size ≤ 4294967296) (k : Nat) : chars_Valid.f (s.size + 2 + k) s = some (validL s.data.toList) := valid_l0 s.size s _ rfl hs (by omega)
end Go.Proofs.Ytjlgenefjebcaaa.P11
end
section
set_option linter.unusedVariables false
set_option linter.unusedSimpArgs false
namespace Go.Proofs.Ytjlgenefjebcaaa.X
open Go.RowKit Go.Proofs.Ytjlgenefjebcaaa Go.Proofs.Ytjlgenefjebcaaa.Q Go.Proofs.Ytjlgenefjebcaaa.P11 Go.Proofs.YtjlgenefjebcaaaW.PrintWords Go.Proofs.YtjlgenefjebcaaaW.PrintLast Go.Proofs.YtjlgenefjebcaaaW.PrintMore
variable {w0 W : World} {g : Nat} {d : ByteArray} {a : Int} {ts : List Tok} {x : Bool}
def LexRel (d : ByteArray) (P : Option (List Tok)) (a : Int) (acc : List Tok) : Prop :=
  0 ≤ a ∧ a ≤ (d.size : Int) ∧ (acc.length : Int) ≤ a ∧ ∃ n : Nat, (d.size : Int) - a < n ∧ P = lexF d n a acc
theorem Rd.new (w W : World) (d : ByteArray) (hB : Below w.heap.size w W) : Rd w (W.alloc (.cells #[.string d, .int .i64 0, .slice none 0 0, .bool false] 68)) W.heap.size d 0 [] false :=
  ⟨.slice none 0 0, by simpa using heap_alloc_new W _, hB.size, Kd.R_nil _ _ _ _ _, below_alloc hB _⟩
theorem enters5 : (∀ a w, Sem.run Try.prog (callFunc 56 a) w = .ok (.enter 56 a) w) ∧ (∀ a w, Sem.run Try.prog (callFunc 57 a) w = .ok (.enter 57 a) w) ∧ (∀ a w, Sem.run Try.prog (callFunc 58 a) w = .ok (.enter 58 a) w) ∧ (∀ a w, Sem.run Try.prog (callFunc 59 a) w = .ok (.enter 59 a) w) ∧ (∀ a w, Sem.run Try.prog (callFunc 60 a) w = .ok (.enter 60 a) w) :=
  ⟨fun _ _ => by kernel_rfl, fun _ _ => by kernel_rfl, fun _ _ => by kernel_rfl, fun _ _ => by kernel_rfl, fun _ _ => by kernel_rfl⟩
theorem goes_on (w : World) (h : Rd w0 w g d a ts false) (hG : G w0) (hl : ts.length ≤ 100000) (hs : d.size ≤ 65536) (h0 : 0 ≤ a) (h1 : a < (d.size : Int)) :
    Calls Try.prog (nextK d a) #[.pointer (some ⟨g, 0, none⟩)] w fun e w' => e = .returned (.tuple #[]) ∧ Step w0 w' g d ts (stepP d a) := by
  have hr := fun s hs c => stands_room2 d a s h0 hs c
  unfold nextK stepP
  by_cases c1 : standsB d a ⟨#[60, 33, 45, 45]⟩ = true
  · rw [if_pos c1, if_pos c1]
    have := hr _ (by decide) c1
    rw [show ((⟨#[60, 33, 45, 45]⟩ : ByteArray).size : Int) = 4 from rfl] at this
    exact comment_c w h hG (by omega) (by omega) h0 this
  rw [if_neg c1, if_neg c1]
  by_cases c2 : standsB d a ⟨#[60, 33, 91, 67, 68, 65, 84, 65, 91]⟩ = true
  · rw [if_pos c2, if_pos c2]
    have := hr _ (by decide) c2
    rw [show ((⟨#[60, 33, 91, 67, 68, 65, 84, 65, 91]⟩ : ByteArray).size : Int) = 9 from rfl] at this
    exact plain_c w h hG (by omega) (by omega) h0 this
  rw [if_neg c2, if_neg c2]
  by_cases c3 : standsB d a ⟨#[60, 47]⟩ = true
  · rw [if_pos c3, if_pos c3]
    have := hr _ (by decide) c3
    rw [show ((⟨#[60, 47]⟩ : ByteArray).size : Int) = 2 from rfl] at this
    exact closing_c w h (by omega) (by omega) h0 this
  rw [if_neg c3, if_neg c3]
  by_cases c4 : standsB d a ⟨#[60]⟩ = true
  · rw [if_pos c4, if_pos c4]
    exact tag_c w h hG hl (by omega) h0 (by omega)
  rw [if_neg c4, if_neg c4]
  exact text_c w h hG (by omega) (by omega) h0 (by omega)
theorem enters_next (d : ByteArray) (p : Int) (a : Array Value) (w : World) : Sem.run Try.prog (callFunc (nextK d p) a) w = .ok (.enter (nextK d p) a) w := by
  obtain ⟨e1, e2, e3, e4, e5⟩ := enters5
  unfold nextK
  split
  · exact e1 a w
  · split
    · exact e2 a w
    · split
      · exact e3 a w
      · split
        · exact e4 a w
        · exact e5 a w
set_option maxHeartbeats 16000000 in
set_option maxRecDepth 100000 in
theorem lex_c (w : World) (hG : G w) (d : ByteArray) (hs : d.size ≤ 4294967280) :
    Calls Try.prog 23 #[.string d] w fun e w' => ∃ v, e = .returned (.tuple #[v, .int .i64 (lexV d).2]) ∧ Kd.R k41 41 w' w.heap.size (fun _ => True) v (lexV d).1 ∧ Below w.heap.size w w' := by
  obtain ⟨V, hV⟩ : ∃ V, lexV d = V := ⟨_, rfl⟩
  rw [hV]
  unfold lexV at hV
  by_cases c1 : (65536 : Int) < (d.size : Int)
  · rw [if_pos c1] at hV
    subst hV
    have b1 : decide ((65536 : Int) < (d.size : Int)) = true := decide_eq_true c1
    have b2 := eq_true c1
    go_enter Try.func23, Try.ntmps23
    go_wp2
    first | go_ret | go_ret2 | go_ret3
    exact ⟨_, rfl, Kd.R_nil _ _ _ _ _, by repeat (first | exact Below.refl _ _ | apply pw_below_drewN | apply below_drew | apply below_alloc)⟩
  rw [if_neg c1] at hV
  have b1 : decide ((65536 : Int) < (d.size : Int)) = false := decide_eq_false c1
  have b2 := eq_false c1
  have hsz : d.size ≤ 65536 := by omega
  clear c1
  have hVa : ∀ W, Calls Try.prog 42 #[.string d] W fun e w' => e = .returned (.bool (validL d.data.toList)) ∧ Below W.heap.size W w' := fun W => chars_Valid.calls (d.size + 2 + 0) d _ W (valid_f d (by omega) 0)
  obtain ⟨q, hq⟩ : ∃ q, validL d.data.toList = q := ⟨_, rfl⟩
  rw [hq] at hVa hV
  cases q with
  | false =>
    rw [if_pos rfl] at hV
    subst hV
    go_enter Try.func23, Try.ntmps23
    go_wp2_with (go_at_call 42; (with_reducible refine (hVa _).mono ?_); rintro e w1 ⟨rfl, hb1⟩)
    first | go_ret | go_ret2 | go_ret3
    exact ⟨_, rfl, Kd.R_nil _ _ _ _ _, by repeat (first | exact hb1 | exact Below.refl _ _ | apply pw_below_drewN | apply below_drew | apply below_alloc)⟩
  | true =>
    rw [if_neg (by decide)] at hV
    have hNE := enters_next d
    have hT : LexRel d (lexO d) 0 [] := ⟨by omega, by omega, by simp, ⟨d.size + 1, by omega, rfl⟩⟩
    have HT := Lib.hid hT
    clear hT
    go_enter Try.func23, Try.ntmps23
    go_wp2_with (go_at_call 42; (with_reducible refine (hVa _).mono ?_); rintro e w1 ⟨rfl, hb1⟩)
    have hB1 : Below w.heap.size w w1 := by repeat (first | exact hb1 | apply pw_below_drewN | apply below_drew)
    have HI := Lib.hid (Rd.new w w1 d hB1)
    obtain ⟨g, hg⟩ : ∃ g, w1.heap.size = g := ⟨_, rfl⟩
    rw [hg] at HI ⊢
    clear hb1 hB1
    go_loopw [5] (fun t wr => (Hid (lexO d = none) ∧ ∃ p ts', Hid (Rd w wr g d p ts' true)) ∨ (∃ p acc, Hid (LexRel d (lexO d) p acc) ∧ Hid (Rd w wr g d p acc false))) (fun t wr => ahead d g wr)
    case atStart => exact .inr ⟨_, _, HT, HI⟩
    case round =>
      clear HI HT
      rcases hrel with ⟨hPn, p, ts', HR⟩ | ⟨p, acc, hRel, HR⟩
      · have hc3 := HR.out.c3
        have hc1 := HR.out.c1
        rw [hPn.out] at hV
        have hV' : ([], 15) = V := hV
        subst hV'
        obtain ⟨bb, l1⟩ : ∃ bb, decide (p < (d.size : Int)) = bb := ⟨_, rfl⟩
        cases bb
        all_goals
          go_wp2
          first | go_ret | go_ret2 | go_ret3
          exact ⟨_, rfl, Kd.R_nil _ _ _ _ _, by first | exact HR.out.bel | exact (HR.out.drewN _).bel | exact HR.out.drew.bel⟩
      · have hmeas := Lib.hid HR.out.ahead_
        obtain ⟨r1, r2, r3, n, hn, hPn⟩ := hRel.out
        have hc3 := HR.out.c3
        have hc1 := HR.out.c1
        cases n with
        | zero => omega
        | succ n =>
        unfold lexF at hPn
        by_cases hlt : p < (d.size : Int)
        · rw [if_pos hlt] at hPn
          have l1 : decide (p < (d.size : Int)) = true := decide_eq_true hlt
          have l2 := eq_true hlt
          obtain ⟨K, hK⟩ : ∃ K, nextK d p = K := ⟨_, rfl⟩
          have hNx : ∀ W, Rd w W g d p acc false → Calls Try.prog 43 #[.pointer (some ⟨g, 0, none⟩)] W fun e w' => e = .returned (.func (.func K) #[.pointer (some ⟨g, 0, none⟩)] #[]) ∧ Below W.heap.size W w' := fun W h => by rw [← hK]; exact next_c W h r1
          have hGo : ∀ W, Rd w W g d p acc false → Calls Try.prog K #[.pointer (some ⟨g, 0, none⟩)] W fun e w' => e = .returned (.tuple #[]) ∧ Step w w' g d acc (stepP d p) := fun W h => by rw [← hK]; exact goes_on W h hG (by omega) hsz r1 hlt
          have hEn : ∀ (a : Array Value) (w : World), Sem.run Try.prog (callFunc K a) w = .ok (.enter K a) w := fun a w => by rw [← hK]; exact enters_next d p a w
          go_wp2_with (go_at_call 43; (with_reducible refine (hNx _ (by first | exact HR.out | exact HR.out.drewN _)).mono ?_); rintro e w3 ⟨rfl, hb_⟩; have H3 := Lib.hid (show Rd w w3 g d p acc false from by first | exact HR.out.below hb_ | exact (HR.out.drewN _).below hb_); clear hb_)
          go_wp2_with ((with_reducible refine (hGo _ (by first | exact H3.out | exact H3.out.drewN _)).mono ?_); rintro e w4 ⟨rfl, ht⟩)
          cases hS : stepP d p with
          | none =>
            rw [hS] at ht hPn
            obtain ⟨a', ts', ht⟩ := ht
            have HA := Lib.hid ht
            have HP := Lib.hid hPn
            clear ht hPn hV
            go_wp2
            go_roundw
            case rel => first | exact .inl ⟨HP, _, _, HA⟩ | exact .inl ⟨_, _, HA⟩
            case measure => rw [hmeas.out, HA.out.ahead_]; simp only [Bool.false_eq_true, if_false, if_true]; omega
          | some v =>
            obtain ⟨new, a'⟩ := v
            rw [hS] at ht hPn
            have hroom := step_room d p r1 hlt new a' hS
            have HA := Lib.hid (show Rd w w4 g d a' (acc ++ new) false from ht)
            have HP := Lib.hid hPn
            clear ht hPn hV
            go_wp2
            go_roundw
            case rel => exact .inr ⟨_, _, Lib.hid ⟨by omega, hroom.2.1, by rw [List.length_append]; omega, ⟨n, by omega, HP.out⟩⟩, HA⟩
            case measure => rw [hmeas.out, HA.out.ahead_]; simp only [Bool.false_eq_true, if_false, if_true]; omega
        · rw [if_neg hlt] at hPn
          have l1 : decide (p < (d.size : Int)) = false := decide_eq_false hlt
          have l2 := eq_false hlt
          rw [hPn] at hV
          have hV' : (acc, 0) = V := hV
          subst hV'
          obtain ⟨v, h1, h2, h3, h4⟩ := HR.out
          obtain ⟨A, c, rfl, -, -⟩ := Kd.R_reads h3
          have hc2 : wr.cell? ⟨g, 2, none⟩ = some (.slice A acc.length c) := (blk_cell h1 2).trans rfl
          have H5 := Lib.hid h3
          have H6 := Lib.hid h4
          clear h1 h3 h4
          go_wp2
          first | go_ret | go_ret2 | go_ret3
          exact ⟨_, rfl, Kd.R_mono (by first | exact H5.out | exact Kd.R_drewN H5.out _ | exact Kd.R_drew H5.out) (fun _ _ => trivial), by first | exact H6.out | exact pw_below_drewN H6.out _⟩
def lexer_Lex.f (a0 : ByteArray) : Option (List Tok × Int) := if a0.size ≤ 4294967280 then some (lexV a0) else none
theorem lexer_Lex.calls (a0 : ByteArray) (r1 : List Tok) (r2 : Int) (w : World) (hG : G w) (h : lexer_Lex.f a0 = some (r1, r2)) :
    Calls Try.prog 23 #[.string a0] w fun e w' => ∃ v0_ : Value, e = .returned (.tuple #[v0_, .int .i64 r2]) ∧ Kd.R k41 41 w' w.heap.size (fun _ => True) v0_ r1 ∧ Below w.heap.size w w' := by
  unfold lexer_Lex.f at h
  split at h
  · rename_i hs
    have h := Option.some.inj h
    have h1 : r1 = (lexV a0).1 := by rw [h]
    have h2 : r2 = (lexV a0).2 := by rw [h]
    subst h1 h2
    exact lex_c w hG a0 hs
  · cases h
end Go.Proofs.Ytjlgenefjebcaaa.X
end
section
namespace Go.Proofs.Ytjlgenefjebcaaa.X
end Go.Proofs.Ytjlgenefjebcaaa.X
namespace Go.Proofs.Ytjlgenefjebcaaa.Q
open Go.RowKit Go.Proofs.YtjlgenefjebcaaaW.PrintWords Go.Proofs.YtjlgenefjebcaaaW.PrintLast Go.Proofs.YtjlgenefjebcaaaW.PrintMore
attribute [local go_sem] max2_int min2_int max_two min_two max_three min_three max_four min_four   
open Go.Proofs.Ytjlgenefjebcaaa.X
set_option linter.unusedVariables false
set_option linter.unusedSimpArgs false
def topiarylaw12_awake.f  : Option (Bool) := (lexer_Lex.f (⟨#[60, 97, 32, 98, 61, 39, 49, 39, 62, 120, 38, 97, 109, 112, 59, 121, 60, 47, 97, 62]⟩ : ByteArray)).bind fun bt150 => ((lexer_Lex.f (⟨#[60, 97, 32, 98, 62]⟩ : ByteArray)).bind fun bt154 => (if bt150.2 = 0 then (if bt154.2 = 15 then (if (bt150.1.length : Int) = 5 then (if 0 < (bt150.1.length : Int) then (if ((rd_T41 bt150.1 0).f0) = 1 then (if 1 < (bt150.1.length : Int) then (if ((rd_T41 bt150.1 1).f3).toList = ([98] : List UInt8) then (if ((rd_T41 bt150.1 1).f4).toList = ([49] : List UInt8) then (if 2 < (bt150.1.length : Int) then (if ((rd_T41 bt150.1 2).f0) = 3 then (if 3 < (bt150.1.length : Int) then (if ((rd_T41 bt150.1 3).f4).toList = ([120, 38, 121] : List UInt8) then (if 4 < (bt150.1.length : Int) then (if ((rd_T41 bt150.1 4).f0) = 5 then (some (((rd_T41 bt150.1 4).f3).toList == ([97] : List UInt8))) else (some false)) else (none)) else (some false)) else (none)) else (some false)) else (none)) else (some false)) else (some false)) else (none)) else (some false)) else (none)) else (some false)) else (some false)) else (some false)))
set_option maxHeartbeats 8000000 in
set_option maxRecDepth 100000 in
theorem topiarylaw12_awake.calls  (r : Bool) (w : World) (hG : G w) (h : topiarylaw12_awake.f  = some r) :
    Calls Try.prog 19 #[] w fun e w' => e = .returned (.bool r) ∧ Below w.heap.size w w' := by
  have HB := Aside0.mk (Below.refl w.heap.size w)
  have H : ((lexer_Lex.f (⟨#[60, 97, 32, 98, 61, 39, 49, 39, 62, 120, 38, 97, 109, 112, 59, 121, 60, 47, 97, 62]⟩ : ByteArray)).bind fun bt150 => ((lexer_Lex.f (⟨#[60, 97, 32, 98, 62]⟩ : ByteArray)).bind fun bt154 => (if bt150.2 = 0 then (if bt154.2 = 15 then (if (bt150.1.length : Int) = 5 then (if 0 < (bt150.1.length : Int) then (if ((rd_T41 bt150.1 0).f0) = 1 then (if 1 < (bt150.1.length : Int) then (if ((rd_T41 bt150.1 1).f3).toList = ([98] : List UInt8) then (if ((rd_T41 bt150.1 1).f4).toList = ([49] : List UInt8) then (if 2 < (bt150.1.length : Int) then (if ((rd_T41 bt150.1 2).f0) = 3 then (if 3 < (bt150.1.length : Int) then (if ((rd_T41 bt150.1 3).f4).toList = ([120, 38, 121] : List UInt8) then (if 4 < (bt150.1.length : Int) then (if ((rd_T41 bt150.1 4).f0) = 5 then (some (((rd_T41 bt150.1 4).f3).toList == ([97] : List UInt8))) else (some false)) else (none)) else (some false)) else (none)) else (some false)) else (none)) else (some false)) else (some false)) else (none)) else (some false)) else (none)) else (some false)) else (some false)) else (some false)))) = some r := h
  clear h
  replace H := Option.bind_eq_some_iff.mp H
  obtain ⟨⟨t150, t151⟩, A10, H⟩ := H
  replace H : ((lexer_Lex.f (⟨#[60, 97, 32, 98, 62]⟩ : ByteArray)).bind fun bt154 => (if t151 = 0 then (if bt154.2 = 15 then (if (t150.length : Int) = 5 then (if 0 < (t150.length : Int) then (if ((rd_T41 t150 0).f0) = 1 then (if 1 < (t150.length : Int) then (if ((rd_T41 t150 1).f3).toList = ([98] : List UInt8) then (if ((rd_T41 t150 1).f4).toList = ([49] : List UInt8) then (if 2 < (t150.length : Int) then (if ((rd_T41 t150 2).f0) = 3 then (if 3 < (t150.length : Int) then (if ((rd_T41 t150 3).f4).toList = ([120, 38, 121] : List UInt8) then (if 4 < (t150.length : Int) then (if ((rd_T41 t150 4).f0) = 5 then (some (((rd_T41 t150 4).f3).toList == ([97] : List UInt8))) else (some false)) else (none)) else (some false)) else (none)) else (some false)) else (none)) else (some false)) else (some false)) else (none)) else (some false)) else (none)) else (some false)) else (some false)) else (some false))) = some r := H
  have A1 := Aside0.mk A10
  clear A10
  replace H := Option.bind_eq_some_iff.mp H
  obtain ⟨⟨t154, t155⟩, A20, H⟩ := H
  replace H : (if t151 = 0 then (if t155 = 15 then (if (t150.length : Int) = 5 then (if 0 < (t150.length : Int) then (if ((rd_T41 t150 0).f0) = 1 then (if 1 < (t150.length : Int) then (if ((rd_T41 t150 1).f3).toList = ([98] : List UInt8) then (if ((rd_T41 t150 1).f4).toList = ([49] : List UInt8) then (if 2 < (t150.length : Int) then (if ((rd_T41 t150 2).f0) = 3 then (if 3 < (t150.length : Int) then (if ((rd_T41 t150 3).f4).toList = ([120, 38, 121] : List UInt8) then (if 4 < (t150.length : Int) then (if ((rd_T41 t150 4).f0) = 5 then (some (((rd_T41 t150 4).f3).toList == ([97] : List UInt8))) else (some false)) else (none)) else (some false)) else (none)) else (some false)) else (none)) else (some false)) else (some false)) else (none)) else (some false)) else (none)) else (some false)) else (some false)) else (some false)) = some r := H
  have A2 := Aside0.mk A20
  clear A20
  by_cases c3 : t151 = 0
  · rw [if_pos c3] at H
    have c3b0 : (t151 == 0) = true := beq_iff_eq.mpr c3
    have c3b1 : (t151 != 0) = false := bne_eq_false_iff_eq.mpr c3
    clear c3
    by_cases c4 : t155 = 15
    · rw [if_pos c4] at H
      have c4b0 : (t155 == 15) = true := beq_iff_eq.mpr c4
      have c4b1 : (t155 != 15) = false := bne_eq_false_iff_eq.mpr c4
      clear c4
      by_cases c5 : (t150.length : Int) = 5
      · rw [if_pos c5] at H
        have c5b0 : ((t150.length : Int) == 5) = true := beq_iff_eq.mpr c5
        have c5b1 : ((t150.length : Int) != 5) = false := bne_eq_false_iff_eq.mpr c5
        clear c5
        by_cases c6 : 0 < (t150.length : Int)
        · rw [if_pos c6] at H
          have c6b0 : decide (0 < (t150.length : Int)) = true := decide_eq_true c6
          have c6b1 : decide (0 < t150.length) = true := decide_eq_true (by omega)
          clear c6
          by_cases c7 : ((rd_T41 t150 0).f0) = 1
          · rw [if_pos c7] at H
            have c7b0 : (((rd_T41 t150 0).f0) == 1) = true := beq_iff_eq.mpr c7
            have c7b1 : (((rd_T41 t150 0).f0) != 1) = false := bne_eq_false_iff_eq.mpr c7
            clear c7
            by_cases c8 : 1 < (t150.length : Int)
            · rw [if_pos c8] at H
              have c8b0 : decide (1 < (t150.length : Int)) = true := decide_eq_true c8
              have c8b1 : decide (1 < t150.length) = true := decide_eq_true (by omega)
              clear c8
              by_cases c9 : ((rd_T41 t150 1).f3).toList = ([98] : List UInt8)
              · rw [if_pos c9] at H
                have c9b0 : (((rd_T41 t150 1).f3).toList == ([98] : List UInt8)) = true := beq_iff_eq.mpr c9
                have c9b1 : (((rd_T41 t150 1).f3).toList != ([98] : List UInt8)) = false := bne_eq_false_iff_eq.mpr c9
                clear c9
                by_cases c10 : ((rd_T41 t150 1).f4).toList = ([49] : List UInt8)
                · rw [if_pos c10] at H
                  have c10b0 : (((rd_T41 t150 1).f4).toList == ([49] : List UInt8)) = true := beq_iff_eq.mpr c10
                  have c10b1 : (((rd_T41 t150 1).f4).toList != ([49] : List UInt8)) = false := bne_eq_false_iff_eq.mpr c10
                  clear c10
                  by_cases c11 : 2 < (t150.length : Int)
                  · rw [if_pos c11] at H
                    have c11b0 : decide (2 < (t150.length : Int)) = true := decide_eq_true c11
                    have c11b1 : decide (2 < t150.length) = true := decide_eq_true (by omega)
                    clear c11
                    by_cases c12 : ((rd_T41 t150 2).f0) = 3
                    · rw [if_pos c12] at H
                      have c12b0 : (((rd_T41 t150 2).f0) == 3) = true := beq_iff_eq.mpr c12
                      have c12b1 : (((rd_T41 t150 2).f0) != 3) = false := bne_eq_false_iff_eq.mpr c12
                      clear c12
                      by_cases c13 : 3 < (t150.length : Int)
                      · rw [if_pos c13] at H
                        have c13b0 : decide (3 < (t150.length : Int)) = true := decide_eq_true c13
                        have c13b1 : decide (3 < t150.length) = true := decide_eq_true (by omega)
                        clear c13
                        by_cases c14 : ((rd_T41 t150 3).f4).toList = ([120, 38, 121] : List UInt8)
                        · rw [if_pos c14] at H
                          have c14b0 : (((rd_T41 t150 3).f4).toList == ([120, 38, 121] : List UInt8)) = true := beq_iff_eq.mpr c14
                          have c14b1 : (((rd_T41 t150 3).f4).toList != ([120, 38, 121] : List UInt8)) = false := bne_eq_false_iff_eq.mpr c14
                          clear c14
                          by_cases c15 : 4 < (t150.length : Int)
                          · rw [if_pos c15] at H
                            have c15b0 : decide (4 < (t150.length : Int)) = true := decide_eq_true c15
                            have c15b1 : decide (4 < t150.length) = true := decide_eq_true (by omega)
                            clear c15
                            by_cases c16 : ((rd_T41 t150 4).f0) = 5
                            · rw [if_pos c16] at H
                              have c16b0 : (((rd_T41 t150 4).f0) == 5) = true := beq_iff_eq.mpr c16
                              have c16b1 : (((rd_T41 t150 4).f0) != 5) = false := bne_eq_false_iff_eq.mpr c16
                              clear c16
                              obtain rfl := Option.some.inj H
                              go_enter Try.func19, Try.ntmps19
                              go_wp2_with (first | ((with_reducible refine gate_callee (f := 23) rfl ?_); refine goesL_ (some 6) rfl rfl Try.func23 (by kernel_rfl) rfl #[.string (⟨#[60, 97, 32, 98, 61, 39, 49, 39, 62, 120, 38, 97, 109, 112, 59, 121, 60, 47, 97, 62]⟩ : ByteArray)] rfl (by (try simp only [List.map_toArray, List.map_cons, List.map_nil]); first | done | rfl | (simp only [List.length_drop, List.length_take]; rfl)) ?_; (with_reducible refine (lexer_Lex.calls (⟨#[60, 97, 32, 98, 61, 39, 49, 39, 62, 120, 38, 97, 109, 112, 59, 121, 60, 47, 97, 62]⟩ : ByteArray) t150 t151 _ (by first | exact hG | exact G.below hG (by repeat (first | (with_reducible first | exact HB.out | apply below_alloc | apply pw_below_drewN | apply below_drew1) | exact HB.out))) A1.out).mono ?_); rintro e w17 ⟨v152, rfl, ho0, hb⟩; refine ⟨_, rfl, ?_⟩; have n0_ := Aside0.mk (Kd.R_lower ho0 (below_size (by repeat (first | (with_reducible first | exact HB.out | apply below_alloc | apply pw_below_drewN | apply below_drew1) | exact HB.out)))); have n1_ := Aside0.mk (below_step (by repeat (first | (with_reducible first | exact HB.out | apply below_alloc | apply pw_below_drewN | apply below_drew1) | exact HB.out)) hb); clear HB; have HO153 := n0_; have HB := n1_; clear n0_ n1_; (try clear hb); (try clear hb2); (try clear hk); (try clear hi); (try clear ho0)) | ((with_reducible refine gate_callee (f := 23) rfl ?_); refine goesL_ (some 10) rfl rfl Try.func23 (by kernel_rfl) rfl #[.string (⟨#[60, 97, 32, 98, 62]⟩ : ByteArray)] rfl (by (try simp only [List.map_toArray, List.map_cons, List.map_nil]); first | done | rfl | (simp only [List.length_drop, List.length_take]; rfl)) ?_; (with_reducible refine (lexer_Lex.calls (⟨#[60, 97, 32, 98, 62]⟩ : ByteArray) t154 t155 _ (by first | exact hG | exact G.below hG (by repeat (first | (with_reducible first | exact HB.out | apply below_alloc | apply pw_below_drewN | apply below_drew1) | exact HB.out))) A2.out).mono ?_); rintro e w18 ⟨v156, rfl, ho0, hb⟩; refine ⟨_, rfl, ?_⟩; have n0_ := Aside0.mk (Kd.R_elder' (by (with_reducible repeat (first | apply Kd.R_alloc | apply Kd.R_drewN | apply Kd.R_drew)); exact HO153.out) (Kd.R_base ho0) hb); have n1_ := Aside0.mk (Kd.R_lower (Kd.R_new' ho0 (Kd.R_lt (by (with_reducible repeat (first | apply Kd.R_alloc | apply Kd.R_drewN | apply Kd.R_drew)); exact HO153.out))) (below_size (by repeat (first | (with_reducible first | exact HB.out | apply below_alloc | apply pw_below_drewN | apply below_drew1) | exact HB.out)))); have n2_ := Aside0.mk (below_step (by repeat (first | (with_reducible first | exact HB.out | apply below_alloc | apply pw_below_drewN | apply below_drew1) | exact HB.out)) hb); clear HO153; clear HB; have HO153 := n0_; have HO157 := n1_; have HB := n2_; clear n0_ n1_ n2_; (try clear hb); (try clear hb2); (try clear hk); (try clear hi); (try clear ho0); obtain ⟨Ao19, co19, eo19⟩ := Kd.R_slice HO153.out; subst eo19; have p158 : 0 ≤ (0 : Int) := (by omega); have q158 : 0 < (t150.length : Int) := of_decide_eq_true (by first | (with_reducible assumption) | assumption); obtain ⟨ad158, e158, hx158_0, hx158_1, hx158_2, hx158_3, hx158_4⟩ := at_T41 (Kd.R_reads' HO153.out).2.2 0 p158 q158; cases e158; have qi158 : (0 < t150.length) = True := eq_true (by omega); (try rw [show ((0 : Int)).toNat = 0 from rfl] at hx158_0); (try rw [show 0 * 5 = 0 from rfl] at hx158_0); (try rw [Addr.add_zero'] at hx158_0); (try rw [show ((0 : Int)).toNat = 0 from rfl] at hx158_1); (try rw [show 0 * 5 = 0 from rfl] at hx158_1); (try rw [Addr.add_zero'] at hx158_1); (try rw [show ((0 : Int)).toNat = 0 from rfl] at hx158_2); (try rw [show 0 * 5 = 0 from rfl] at hx158_2); (try rw [Addr.add_zero'] at hx158_2); (try rw [show ((0 : Int)).toNat = 0 from rfl] at hx158_3); (try rw [show 0 * 5 = 0 from rfl] at hx158_3); (try rw [Addr.add_zero'] at hx158_3); (try rw [show ((0 : Int)).toNat = 0 from rfl] at hx158_4); (try rw [show 0 * 5 = 0 from rfl] at hx158_4); (try rw [Addr.add_zero'] at hx158_4); replace p158 := eq_true p158; replace q158 := eq_true q158; have p159 : 0 ≤ (1 : Int) := (by omega); have q159 : 1 < (t150.length : Int) := of_decide_eq_true (by first | (with_reducible assumption) | assumption); obtain ⟨ad159, e159, hx159_0, hx159_1, hx159_2, hx159_3, hx159_4⟩ := at_T41 (Kd.R_reads' HO153.out).2.2 1 p159 q159; obtain rfl : ad158 = ad159 := (by injection e159); (try simp only [show (1 : Int).toNat = 1 from rfl, Nat.reduceMul, Nat.reduceEqDiff, Go.Addr.add, ↓reduceIte] at hx159_0); (try simp only [show (1 : Int).toNat = 1 from rfl, Nat.reduceMul, Nat.reduceEqDiff, Go.Addr.add, ↓reduceIte] at hx159_1); (try simp only [show (1 : Int).toNat = 1 from rfl, Nat.reduceMul, Nat.reduceEqDiff, Go.Addr.add, ↓reduceIte] at hx159_2); (try simp only [show (1 : Int).toNat = 1 from rfl, Nat.reduceMul, Nat.reduceEqDiff, Go.Addr.add, ↓reduceIte] at hx159_3); (try simp only [show (1 : Int).toNat = 1 from rfl, Nat.reduceMul, Nat.reduceEqDiff, Go.Addr.add, ↓reduceIte] at hx159_4); have qi159 : (1 < t150.length) = True := eq_true (by omega); (try rw [show ((1 : Int)).toNat = 1 from rfl] at hx159_0); (try rw [show 1 * 5 = 5 from rfl] at hx159_0); (try rw [show ((1 : Int)).toNat = 1 from rfl] at hx159_1); (try rw [show 1 * 5 = 5 from rfl] at hx159_1); (try rw [show ((1 : Int)).toNat = 1 from rfl] at hx159_2); (try rw [show 1 * 5 = 5 from rfl] at hx159_2); (try rw [show ((1 : Int)).toNat = 1 from rfl] at hx159_3); (try rw [show 1 * 5 = 5 from rfl] at hx159_3); (try rw [show ((1 : Int)).toNat = 1 from rfl] at hx159_4); (try rw [show 1 * 5 = 5 from rfl] at hx159_4); replace p159 := eq_true p159; replace q159 := eq_true q159; have p160 : 0 ≤ (1 : Int) := (by omega); have q160 : 1 < (t150.length : Int) := of_decide_eq_true (by first | (with_reducible assumption) | assumption); obtain ⟨ad160, e160, hx160_0, hx160_1, hx160_2, hx160_3, hx160_4⟩ := at_T41 (Kd.R_reads' HO153.out).2.2 1 p160 q160; obtain rfl : ad158 = ad160 := (by injection e160); (try simp only [show (1 : Int).toNat = 1 from rfl, Nat.reduceMul, Nat.reduceEqDiff, Go.Addr.add, ↓reduceIte] at hx160_0); (try simp only [show (1 : Int).toNat = 1 from rfl, Nat.reduceMul, Nat.reduceEqDiff, Go.Addr.add, ↓reduceIte] at hx160_1); (try simp only [show (1 : Int).toNat = 1 from rfl, Nat.reduceMul, Nat.reduceEqDiff, Go.Addr.add, ↓reduceIte] at hx160_2); (try simp only [show (1 : Int).toNat = 1 from rfl, Nat.reduceMul, Nat.reduceEqDiff, Go.Addr.add, ↓reduceIte] at hx160_3); (try simp only [show (1 : Int).toNat = 1 from rfl, Nat.reduceMul, Nat.reduceEqDiff, Go.Addr.add, ↓reduceIte] at hx160_4); have qi160 : (1 < t150.length) = True := eq_true (by omega); (try rw [show ((1 : Int)).toNat = 1 from rfl] at hx160_0); (try rw [show 1 * 5 = 5 from rfl] at hx160_0); (try rw [show ((1 : Int)).toNat = 1 from rfl] at hx160_1); (try rw [show 1 * 5 = 5 from rfl] at hx160_1); (try rw [show ((1 : Int)).toNat = 1 from rfl] at hx160_2); (try rw [show 1 * 5 = 5 from rfl] at hx160_2); (try rw [show ((1 : Int)).toNat = 1 from rfl] at hx160_3); (try rw [show 1 * 5 = 5 from rfl] at hx160_3); (try rw [show ((1 : Int)).toNat = 1 from rfl] at hx160_4); (try rw [show 1 * 5 = 5 from rfl] at hx160_4); replace p160 := eq_true p160; replace q160 := eq_true q160; have p161 : 0 ≤ (2 : Int) := (by omega); have q161 : 2 < (t150.length : Int) := of_decide_eq_true (by first | (with_reducible assumption) | assumption); obtain ⟨ad161, e161, hx161_0, hx161_1, hx161_2, hx161_3, hx161_4⟩ := at_T41 (Kd.R_reads' HO153.out).2.2 2 p161 q161; obtain rfl : ad158 = ad161 := (by injection e161); (try simp only [show (2 : Int).toNat = 2 from rfl, Nat.reduceMul, Nat.reduceEqDiff, Go.Addr.add, ↓reduceIte] at hx161_0); (try simp only [show (2 : Int).toNat = 2 from rfl, Nat.reduceMul, Nat.reduceEqDiff, Go.Addr.add, ↓reduceIte] at hx161_1); (try simp only [show (2 : Int).toNat = 2 from rfl, Nat.reduceMul, Nat.reduceEqDiff, Go.Addr.add, ↓reduceIte] at hx161_2); (try simp only [show (2 : Int).toNat = 2 from rfl, Nat.reduceMul, Nat.reduceEqDiff, Go.Addr.add, ↓reduceIte] at hx161_3); (try simp only [show (2 : Int).toNat = 2 from rfl, Nat.reduceMul, Nat.reduceEqDiff, Go.Addr.add, ↓reduceIte] at hx161_4); have qi161 : (2 < t150.length) = True := eq_true (by omega); (try rw [show ((2 : Int)).toNat = 2 from rfl] at hx161_0); (try rw [show 2 * 5 = 10 from rfl] at hx161_0); (try rw [show ((2 : Int)).toNat = 2 from rfl] at hx161_1); (try rw [show 2 * 5 = 10 from rfl] at hx161_1); (try rw [show ((2 : Int)).toNat = 2 from rfl] at hx161_2); (try rw [show 2 * 5 = 10 from rfl] at hx161_2); (try rw [show ((2 : Int)).toNat = 2 from rfl] at hx161_3); (try rw [show 2 * 5 = 10 from rfl] at hx161_3); (try rw [show ((2 : Int)).toNat = 2 from rfl] at hx161_4); (try rw [show 2 * 5 = 10 from rfl] at hx161_4); replace p161 := eq_true p161; replace q161 := eq_true q161; have p162 : 0 ≤ (3 : Int) := (by omega); have q162 : 3 < (t150.length : Int) := of_decide_eq_true (by first | (with_reducible assumption) | assumption); obtain ⟨ad162, e162, hx162_0, hx162_1, hx162_2, hx162_3, hx162_4⟩ := at_T41 (Kd.R_reads' HO153.out).2.2 3 p162 q162; obtain rfl : ad158 = ad162 := (by injection e162); (try simp only [show (3 : Int).toNat = 3 from rfl, Nat.reduceMul, Nat.reduceEqDiff, Go.Addr.add, ↓reduceIte] at hx162_0); (try simp only [show (3 : Int).toNat = 3 from rfl, Nat.reduceMul, Nat.reduceEqDiff, Go.Addr.add, ↓reduceIte] at hx162_1); (try simp only [show (3 : Int).toNat = 3 from rfl, Nat.reduceMul, Nat.reduceEqDiff, Go.Addr.add, ↓reduceIte] at hx162_2); (try simp only [show (3 : Int).toNat = 3 from rfl, Nat.reduceMul, Nat.reduceEqDiff, Go.Addr.add, ↓reduceIte] at hx162_3); (try simp only [show (3 : Int).toNat = 3 from rfl, Nat.reduceMul, Nat.reduceEqDiff, Go.Addr.add, ↓reduceIte] at hx162_4); have qi162 : (3 < t150.length) = True := eq_true (by omega); (try rw [show ((3 : Int)).toNat = 3 from rfl] at hx162_0); (try rw [show 3 * 5 = 15 from rfl] at hx162_0); (try rw [show ((3 : Int)).toNat = 3 from rfl] at hx162_1); (try rw [show 3 * 5 = 15 from rfl] at hx162_1); (try rw [show ((3 : Int)).toNat = 3 from rfl] at hx162_2); (try rw [show 3 * 5 = 15 from rfl] at hx162_2); (try rw [show ((3 : Int)).toNat = 3 from rfl] at hx162_3); (try rw [show 3 * 5 = 15 from rfl] at hx162_3); (try rw [show ((3 : Int)).toNat = 3 from rfl] at hx162_4); (try rw [show 3 * 5 = 15 from rfl] at hx162_4); replace p162 := eq_true p162; replace q162 := eq_true q162; have p163 : 0 ≤ (4 : Int) := (by omega); have q163 : 4 < (t150.length : Int) := of_decide_eq_true (by first | (with_reducible assumption) | assumption); obtain ⟨ad163, e163, hx163_0, hx163_1, hx163_2, hx163_3, hx163_4⟩ := at_T41 (Kd.R_reads' HO153.out).2.2 4 p163 q163; obtain rfl : ad158 = ad163 := (by injection e163); (try simp only [show (4 : Int).toNat = 4 from rfl, Nat.reduceMul, Nat.reduceEqDiff, Go.Addr.add, ↓reduceIte] at hx163_0); (try simp only [show (4 : Int).toNat = 4 from rfl, Nat.reduceMul, Nat.reduceEqDiff, Go.Addr.add, ↓reduceIte] at hx163_1); (try simp only [show (4 : Int).toNat = 4 from rfl, Nat.reduceMul, Nat.reduceEqDiff, Go.Addr.add, ↓reduceIte] at hx163_2); (try simp only [show (4 : Int).toNat = 4 from rfl, Nat.reduceMul, Nat.reduceEqDiff, Go.Addr.add, ↓reduceIte] at hx163_3); (try simp only [show (4 : Int).toNat = 4 from rfl, Nat.reduceMul, Nat.reduceEqDiff, Go.Addr.add, ↓reduceIte] at hx163_4); have qi163 : (4 < t150.length) = True := eq_true (by omega); (try rw [show ((4 : Int)).toNat = 4 from rfl] at hx163_0); (try rw [show 4 * 5 = 20 from rfl] at hx163_0); (try rw [show ((4 : Int)).toNat = 4 from rfl] at hx163_1); (try rw [show 4 * 5 = 20 from rfl] at hx163_1); (try rw [show ((4 : Int)).toNat = 4 from rfl] at hx163_2); (try rw [show 4 * 5 = 20 from rfl] at hx163_2); (try rw [show ((4 : Int)).toNat = 4 from rfl] at hx163_3); (try rw [show 4 * 5 = 20 from rfl] at hx163_3); (try rw [show ((4 : Int)).toNat = 4 from rfl] at hx163_4); (try rw [show 4 * 5 = 20 from rfl] at hx163_4); replace p163 := eq_true p163; replace q163 := eq_true q163; have p164 : 0 ≤ (4 : Int) := (by omega); have q164 : 4 < (t150.length : Int) := of_decide_eq_true (by first | (with_reducible assumption) | assumption); obtain ⟨ad164, e164, hx164_0, hx164_1, hx164_2, hx164_3, hx164_4⟩ := at_T41 (Kd.R_reads' HO153.out).2.2 4 p164 q164; obtain rfl : ad158 = ad164 := (by injection e164); (try simp only [show (4 : Int).toNat = 4 from rfl, Nat.reduceMul, Nat.reduceEqDiff, Go.Addr.add, ↓reduceIte] at hx164_0); (try simp only [show (4 : Int).toNat = 4 from rfl, Nat.reduceMul, Nat.reduceEqDiff, Go.Addr.add, ↓reduceIte] at hx164_1); (try simp only [show (4 : Int).toNat = 4 from rfl, Nat.reduceMul, Nat.reduceEqDiff, Go.Addr.add, ↓reduceIte] at hx164_2); (try simp only [show (4 : Int).toNat = 4 from rfl, Nat.reduceMul, Nat.reduceEqDiff, Go.Addr.add, ↓reduceIte] at hx164_3); (try simp only [show (4 : Int).toNat = 4 from rfl, Nat.reduceMul, Nat.reduceEqDiff, Go.Addr.add, ↓reduceIte] at hx164_4); have qi164 : (4 < t150.length) = True := eq_true (by omega); (try rw [show ((4 : Int)).toNat = 4 from rfl] at hx164_0); (try rw [show 4 * 5 = 20 from rfl] at hx164_0); (try rw [show ((4 : Int)).toNat = 4 from rfl] at hx164_1); (try rw [show 4 * 5 = 20 from rfl] at hx164_1); (try rw [show ((4 : Int)).toNat = 4 from rfl] at hx164_2); (try rw [show 4 * 5 = 20 from rfl] at hx164_2); (try rw [show ((4 : Int)).toNat = 4 from rfl] at hx164_3); (try rw [show 4 * 5 = 20 from rfl] at hx164_3); (try rw [show ((4 : Int)).toNat = 4 from rfl] at hx164_4); (try rw [show 4 * 5 = 20 from rfl] at hx164_4); replace p164 := eq_true p164; replace q164 := eq_true q164))
                              go_ret
                              exact ⟨by first | rfl | (simp [errW_none, errW_some] <;> rfl) | (simp [*, errW_none, errW_some] <;> rfl), by repeat (first | (with_reducible first | exact HB.out | apply below_alloc | apply pw_below_drewN | apply below_drew1) | exact HB.out)⟩
                            · rw [if_neg c16] at H
                              have c16b0 : (((rd_T41 t150 4).f0) == 5) = false := beq_eq_false_iff_ne.mpr c16
                              have c16b1 : (((rd_T41 t150 4).f0) != 5) = true := bne_iff_ne.mpr c16
                              obtain rfl := Option.some.inj H
                              go_enter Try.func19, Try.ntmps19
                              go_wp2_with (first | ((with_reducible refine gate_callee (f := 23) rfl ?_); refine goesL_ (some 6) rfl rfl Try.func23 (by kernel_rfl) rfl #[.string (⟨#[60, 97, 32, 98, 61, 39, 49, 39, 62, 120, 38, 97, 109, 112, 59, 121, 60, 47, 97, 62]⟩ : ByteArray)] rfl (by (try simp only [List.map_toArray, List.map_cons, List.map_nil]); first | done | rfl | (simp only [List.length_drop, List.length_take]; rfl)) ?_; (with_reducible refine (lexer_Lex.calls (⟨#[60, 97, 32, 98, 61, 39, 49, 39, 62, 120, 38, 97, 109, 112, 59, 121, 60, 47, 97, 62]⟩ : ByteArray) t150 t151 _ (by first | exact hG | exact G.below hG (by repeat (first | (with_reducible first | exact HB.out | apply below_alloc | apply pw_below_drewN | apply below_drew1) | exact HB.out))) A1.out).mono ?_); rintro e w20 ⟨v152, rfl, ho0, hb⟩; refine ⟨_, rfl, ?_⟩; have n0_ := Aside0.mk (Kd.R_lower ho0 (below_size (by repeat (first | (with_reducible first | exact HB.out | apply below_alloc | apply pw_below_drewN | apply below_drew1) | exact HB.out)))); have n1_ := Aside0.mk (below_step (by repeat (first | (with_reducible first | exact HB.out | apply below_alloc | apply pw_below_drewN | apply below_drew1) | exact HB.out)) hb); clear HB; have HO153 := n0_; have HB := n1_; clear n0_ n1_; (try clear hb); (try clear hb2); (try clear hk); (try clear hi); (try clear ho0)) | ((with_reducible refine gate_callee (f := 23) rfl ?_); refine goesL_ (some 10) rfl rfl Try.func23 (by kernel_rfl) rfl #[.string (⟨#[60, 97, 32, 98, 62]⟩ : ByteArray)] rfl (by (try simp only [List.map_toArray, List.map_cons, List.map_nil]); first | done | rfl | (simp only [List.length_drop, List.length_take]; rfl)) ?_; (with_reducible refine (lexer_Lex.calls (⟨#[60, 97, 32, 98, 62]⟩ : ByteArray) t154 t155 _ (by first | exact hG | exact G.below hG (by repeat (first | (with_reducible first | exact HB.out | apply below_alloc | apply pw_below_drewN | apply below_drew1) | exact HB.out))) A2.out).mono ?_); rintro e w21 ⟨v156, rfl, ho0, hb⟩; refine ⟨_, rfl, ?_⟩; have n0_ := Aside0.mk (Kd.R_elder' (by (with_reducible repeat (first | apply Kd.R_alloc | apply Kd.R_drewN | apply Kd.R_drew)); exact HO153.out) (Kd.R_base ho0) hb); have n1_ := Aside0.mk (Kd.R_lower (Kd.R_new' ho0 (Kd.R_lt (by (with_reducible repeat (first | apply Kd.R_alloc | apply Kd.R_drewN | apply Kd.R_drew)); exact HO153.out))) (below_size (by repeat (first | (with_reducible first | exact HB.out | apply below_alloc | apply pw_below_drewN | apply below_drew1) | exact HB.out)))); have n2_ := Aside0.mk (below_step (by repeat (first | (with_reducible first | exact HB.out | apply below_alloc | apply pw_below_drewN | apply below_drew1) | exact HB.out)) hb); clear HO153; clear HB; have HO153 := n0_; have HO157 := n1_; have HB := n2_; clear n0_ n1_ n2_; (try clear hb); (try clear hb2); (try clear hk); (try clear hi); (try clear ho0); obtain ⟨Ao22, co22, eo22⟩ := Kd.R_slice HO153.out; subst eo22; have p158 : 0 ≤ (0 : Int) := (by omega); have q158 : 0 < (t150.length : Int) := of_decide_eq_true (by first | (with_reducible assumption) | assumption); obtain ⟨ad158, e158, hx158_0, hx158_1, hx158_2, hx158_3, hx158_4⟩ := at_T41 (Kd.R_reads' HO153.out).2.2 0 p158 q158; cases e158; have qi158 : (0 < t150.length) = True := eq_true (by omega); (try rw [show ((0 : Int)).toNat = 0 from rfl] at hx158_0); (try rw [show 0 * 5 = 0 from rfl] at hx158_0); (try rw [Addr.add_zero'] at hx158_0); (try rw [show ((0 : Int)).toNat = 0 from rfl] at hx158_1); (try rw [show 0 * 5 = 0 from rfl] at hx158_1); (try rw [Addr.add_zero'] at hx158_1); (try rw [show ((0 : Int)).toNat = 0 from rfl] at hx158_2); (try rw [show 0 * 5 = 0 from rfl] at hx158_2); (try rw [Addr.add_zero'] at hx158_2); (try rw [show ((0 : Int)).toNat = 0 from rfl] at hx158_3); (try rw [show 0 * 5 = 0 from rfl] at hx158_3); (try rw [Addr.add_zero'] at hx158_3); (try rw [show ((0 : Int)).toNat = 0 from rfl] at hx158_4); (try rw [show 0 * 5 = 0 from rfl] at hx158_4); (try rw [Addr.add_zero'] at hx158_4); replace p158 := eq_true p158; replace q158 := eq_true q158; have p159 : 0 ≤ (1 : Int) := (by omega); have q159 : 1 < (t150.length : Int) := of_decide_eq_true (by first | (with_reducible assumption) | assumption); obtain ⟨ad159, e159, hx159_0, hx159_1, hx159_2, hx159_3, hx159_4⟩ := at_T41 (Kd.R_reads' HO153.out).2.2 1 p159 q159; obtain rfl : ad158 = ad159 := (by injection e159); (try simp only [show (1 : Int).toNat = 1 from rfl, Nat.reduceMul, Nat.reduceEqDiff, Go.Addr.add, ↓reduceIte] at hx159_0); (try simp only [show (1 : Int).toNat = 1 from rfl, Nat.reduceMul, Nat.reduceEqDiff, Go.Addr.add, ↓reduceIte] at hx159_1); (try simp only [show (1 : Int).toNat = 1 from rfl, Nat.reduceMul, Nat.reduceEqDiff, Go.Addr.add, ↓reduceIte] at hx159_2); (try simp only [show (1 : Int).toNat = 1 from rfl, Nat.reduceMul, Nat.reduceEqDiff, Go.Addr.add, ↓reduceIte] at hx159_3); (try simp only [show (1 : Int).toNat = 1 from rfl, Nat.reduceMul, Nat.reduceEqDiff, Go.Addr.add, ↓reduceIte] at hx159_4); have qi159 : (1 < t150.length) = True := eq_true (by omega); (try rw [show ((1 : Int)).toNat = 1 from rfl] at hx159_0); (try rw [show 1 * 5 = 5 from rfl] at hx159_0); (try rw [show ((1 : Int)).toNat = 1 from rfl] at hx159_1); (try rw [show 1 * 5 = 5 from rfl] at hx159_1); (try rw [show ((1 : Int)).toNat = 1 from rfl] at hx159_2); (try rw [show 1 * 5 = 5 from rfl] at hx159_2); (try rw [show ((1 : Int)).toNat = 1 from rfl] at hx159_3); (try rw [show 1 * 5 = 5 from rfl] at hx159_3); (try rw [show ((1 : Int)).toNat = 1 from rfl] at hx159_4); (try rw [show 1 * 5 = 5 from rfl] at hx159_4); replace p159 := eq_true p159; replace q159 := eq_true q159; have p160 : 0 ≤ (1 : Int) := (by omega); have q160 : 1 < (t150.length : Int) := of_decide_eq_true (by first | (with_reducible assumption) | assumption); obtain ⟨ad160, e160, hx160_0, hx160_1, hx160_2, hx160_3, hx160_4⟩ := at_T41 (Kd.R_reads' HO153.out).2.2 1 p160 q160; obtain rfl : ad158 = ad160 := (by injection e160); (try simp only [show (1 : Int).toNat = 1 from rfl, Nat.reduceMul, Nat.reduceEqDiff, Go.Addr.add, ↓reduceIte] at hx160_0); (try simp only [show (1 : Int).toNat = 1 from rfl, Nat.reduceMul, Nat.reduceEqDiff, Go.Addr.add, ↓reduceIte] at hx160_1); (try simp only [show (1 : Int).toNat = 1 from rfl, Nat.reduceMul, Nat.reduceEqDiff, Go.Addr.add, ↓reduceIte] at hx160_2); (try simp only [show (1 : Int).toNat = 1 from rfl, Nat.reduceMul, Nat.reduceEqDiff, Go.Addr.add, ↓reduceIte] at hx160_3); (try simp only [show (1 : Int).toNat = 1 from rfl, Nat.reduceMul, Nat.reduceEqDiff, Go.Addr.add, ↓reduceIte] at hx160_4); have qi160 : (1 < t150.length) = True := eq_true (by omega); (try rw [show ((1 : Int)).toNat = 1 from rfl] at hx160_0); (try rw [show 1 * 5 = 5 from rfl] at hx160_0); (try rw [show ((1 : Int)).toNat = 1 from rfl] at hx160_1); (try rw [show 1 * 5 = 5 from rfl] at hx160_1); (try rw [show ((1 : Int)).toNat = 1 from rfl] at hx160_2); (try rw [show 1 * 5 = 5 from rfl] at hx160_2); (try rw [show ((1 : Int)).toNat = 1 from rfl] at hx160_3); (try rw [show 1 * 5 = 5 from rfl] at hx160_3); (try rw [show ((1 : Int)).toNat = 1 from rfl] at hx160_4); (try rw [show 1 * 5 = 5 from rfl] at hx160_4); replace p160 := eq_true p160; replace q160 := eq_true q160; have p161 : 0 ≤ (2 : Int) := (by omega); have q161 : 2 < (t150.length : Int) := of_decide_eq_true (by first | (with_reducible assumption) | assumption); obtain ⟨ad161, e161, hx161_0, hx161_1, hx161_2, hx161_3, hx161_4⟩ := at_T41 (Kd.R_reads' HO153.out).2.2 2 p161 q161; obtain rfl : ad158 = ad161 := (by injection e161); (try simp only [show (2 : Int).toNat = 2 from rfl, Nat.reduceMul, Nat.reduceEqDiff, Go.Addr.add, ↓reduceIte] at hx161_0); (try simp only [show (2 : Int).toNat = 2 from rfl, Nat.reduceMul, Nat.reduceEqDiff, Go.Addr.add, ↓reduceIte] at hx161_1); (try simp only [show (2 : Int).toNat = 2 from rfl, Nat.reduceMul, Nat.reduceEqDiff, Go.Addr.add, ↓reduceIte] at hx161_2); (try simp only [show (2 : Int).toNat = 2 from rfl, Nat.reduceMul, Nat.reduceEqDiff, Go.Addr.add, ↓reduceIte] at hx161_3); (try simp only [show (2 : Int).toNat = 2 from rfl, Nat.reduceMul, Nat.reduceEqDiff, Go.Addr.add, ↓reduceIte] at hx161_4); have qi161 : (2 < t150.length) = True := eq_true (by omega); (try rw [show ((2 : Int)).toNat = 2 from rfl] at hx161_0); (try rw [show 2 * 5 = 10 from rfl] at hx161_0); (try rw [show ((2 : Int)).toNat = 2 from rfl] at hx161_1); (try rw [show 2 * 5 = 10 from rfl] at hx161_1); (try rw [show ((2 : Int)).toNat = 2 from rfl] at hx161_2); (try rw [show 2 * 5 = 10 from rfl] at hx161_2); (try rw [show ((2 : Int)).toNat = 2 from rfl] at hx161_3); (try rw [show 2 * 5 = 10 from rfl] at hx161_3); (try rw [show ((2 : Int)).toNat = 2 from rfl] at hx161_4); (try rw [show 2 * 5 = 10 from rfl] at hx161_4); replace p161 := eq_true p161; replace q161 := eq_true q161; have p162 : 0 ≤ (3 : Int) := (by omega); have q162 : 3 < (t150.length : Int) := of_decide_eq_true (by first | (with_reducible assumption) | assumption); obtain ⟨ad162, e162, hx162_0, hx162_1, hx162_2, hx162_3, hx162_4⟩ := at_T41 (Kd.R_reads' HO153.out).2.2 3 p162 q162; obtain rfl : ad158 = ad162 := (by injection e162); (try simp only [show (3 : Int).toNat = 3 from rfl, Nat.reduceMul, Nat.reduceEqDiff, Go.Addr.add, ↓reduceIte] at hx162_0); (try simp only [show (3 : Int).toNat = 3 from rfl, Nat.reduceMul, Nat.reduceEqDiff, Go.Addr.add, ↓reduceIte] at hx162_1); (try simp only [show (3 : Int).toNat = 3 from rfl, Nat.reduceMul, Nat.reduceEqDiff, Go.Addr.add, ↓reduceIte] at hx162_2); (try simp only [show (3 : Int).toNat = 3 from rfl, Nat.reduceMul, Nat.reduceEqDiff, Go.Addr.add, ↓reduceIte] at hx162_3); (try simp only [show (3 : Int).toNat = 3 from rfl, Nat.reduceMul, Nat.reduceEqDiff, Go.Addr.add, ↓reduceIte] at hx162_4); have qi162 : (3 < t150.length) = True := eq_true (by omega); (try rw [show ((3 : Int)).toNat = 3 from rfl] at hx162_0); (try rw [show 3 * 5 = 15 from rfl] at hx162_0); (try rw [show ((3 : Int)).toNat = 3 from rfl] at hx162_1); (try rw [show 3 * 5 = 15 from rfl] at hx162_1); (try rw [show ((3 : Int)).toNat = 3 from rfl] at hx162_2); (try rw [show 3 * 5 = 15 from rfl] at hx162_2); (try rw [show ((3 : Int)).toNat = 3 from rfl] at hx162_3); (try rw [show 3 * 5 = 15 from rfl] at hx162_3); (try rw [show ((3 : Int)).toNat = 3 from rfl] at hx162_4); (try rw [show 3 * 5 = 15 from rfl] at hx162_4); replace p162 := eq_true p162; replace q162 := eq_true q162; have p163 : 0 ≤ (4 : Int) := (by omega); have q163 : 4 < (t150.length : Int) := of_decide_eq_true (by first | (with_reducible assumption) | assumption); obtain ⟨ad163, e163, hx163_0, hx163_1, hx163_2, hx163_3, hx163_4⟩ := at_T41 (Kd.R_reads' HO153.out).2.2 4 p163 q163; obtain rfl : ad158 = ad163 := (by injection e163); (try simp only [show (4 : Int).toNat = 4 from rfl, Nat.reduceMul, Nat.reduceEqDiff, Go.Addr.add, ↓reduceIte] at hx163_0); (try simp only [show (4 : Int).toNat = 4 from rfl, Nat.reduceMul, Nat.reduceEqDiff, Go.Addr.add, ↓reduceIte] at hx163_1); (try simp only [show (4 : Int).toNat = 4 from rfl, Nat.reduceMul, Nat.reduceEqDiff, Go.Addr.add, ↓reduceIte] at hx163_2); (try simp only [show (4 : Int).toNat = 4 from rfl, Nat.reduceMul, Nat.reduceEqDiff, Go.Addr.add, ↓reduceIte] at hx163_3); (try simp only [show (4 : Int).toNat = 4 from rfl, Nat.reduceMul, Nat.reduceEqDiff, Go.Addr.add, ↓reduceIte] at hx163_4); have qi163 : (4 < t150.length) = True := eq_true (by omega); (try rw [show ((4 : Int)).toNat = 4 from rfl] at hx163_0); (try rw [show 4 * 5 = 20 from rfl] at hx163_0); (try rw [show ((4 : Int)).toNat = 4 from rfl] at hx163_1); (try rw [show 4 * 5 = 20 from rfl] at hx163_1); (try rw [show ((4 : Int)).toNat = 4 from rfl] at hx163_2); (try rw [show 4 * 5 = 20 from rfl] at hx163_2); (try rw [show ((4 : Int)).toNat = 4 from rfl] at hx163_3); (try rw [show 4 * 5 = 20 from rfl] at hx163_3); (try rw [show ((4 : Int)).toNat = 4 from rfl] at hx163_4); (try rw [show 4 * 5 = 20 from rfl] at hx163_4); replace p163 := eq_true p163; replace q163 := eq_true q163))
                              go_ret
                              exact ⟨by first | rfl | (simp [errW_none, errW_some] <;> rfl) | (simp [*, errW_none, errW_some] <;> rfl), by repeat (first | (with_reducible first | exact HB.out | apply below_alloc | apply pw_below_drewN | apply below_drew1) | exact HB.out)⟩
                          · rw [if_neg c15] at H
                            exact absurd H (by simp)
                        · rw [if_neg c14] at H
                          have c14b0 : (((rd_T41 t150 3).f4).toList == ([120, 38, 121] : List UInt8)) = false := beq_eq_false_iff_ne.mpr c14
                          have c14b1 : (((rd_T41 t150 3).f4).toList != ([120, 38, 121] : List UInt8)) = true := bne_iff_ne.mpr c14
                          obtain rfl := Option.some.inj H
                          go_enter Try.func19, Try.ntmps19
                          go_wp2_with (first | ((with_reducible refine gate_callee (f := 23) rfl ?_); refine goesL_ (some 6) rfl rfl Try.func23 (by kernel_rfl) rfl #[.string (⟨#[60, 97, 32, 98, 61, 39, 49, 39, 62, 120, 38, 97, 109, 112, 59, 121, 60, 47, 97, 62]⟩ : ByteArray)] rfl (by (try simp only [List.map_toArray, List.map_cons, List.map_nil]); first | done | rfl | (simp only [List.length_drop, List.length_take]; rfl)) ?_; (with_reducible refine (lexer_Lex.calls (⟨#[60, 97, 32, 98, 61, 39, 49, 39, 62, 120, 38, 97, 109, 112, 59, 121, 60, 47, 97, 62]⟩ : ByteArray) t150 t151 _ (by first | exact hG | exact G.below hG (by repeat (first | (with_reducible first | exact HB.out | apply below_alloc | apply pw_below_drewN | apply below_drew1) | exact HB.out))) A1.out).mono ?_); rintro e w23 ⟨v152, rfl, ho0, hb⟩; refine ⟨_, rfl, ?_⟩; have n0_ := Aside0.mk (Kd.R_lower ho0 (below_size (by repeat (first | (with_reducible first | exact HB.out | apply below_alloc | apply pw_below_drewN | apply below_drew1) | exact HB.out)))); have n1_ := Aside0.mk (below_step (by repeat (first | (with_reducible first | exact HB.out | apply below_alloc | apply pw_below_drewN | apply below_drew1) | exact HB.out)) hb); clear HB; have HO153 := n0_; have HB := n1_; clear n0_ n1_; (try clear hb); (try clear hb2); (try clear hk); (try clear hi); (try clear ho0)) | ((with_reducible refine gate_callee (f := 23) rfl ?_); refine goesL_ (some 10) rfl rfl Try.func23 (by kernel_rfl) rfl #[.string (⟨#[60, 97, 32, 98, 62]⟩ : ByteArray)] rfl (by (try simp only [List.map_toArray, List.map_cons, List.map_nil]); first | done | rfl | (simp only [List.length_drop, List.length_take]; rfl)) ?_; (with_reducible refine (lexer_Lex.calls (⟨#[60, 97, 32, 98, 62]⟩ : ByteArray) t154 t155 _ (by first | exact hG | exact G.below hG (by repeat (first | (with_reducible first | exact HB.out | apply below_alloc | apply pw_below_drewN | apply below_drew1) | exact HB.out))) A2.out).mono ?_); rintro e w24 ⟨v156, rfl, ho0, hb⟩; refine ⟨_, rfl, ?_⟩; have n0_ := Aside0.mk (Kd.R_elder' (by (with_reducible repeat (first | apply Kd.R_alloc | apply Kd.R_drewN | apply Kd.R_drew)); exact HO153.out) (Kd.R_base ho0) hb); have n1_ := Aside0.mk (Kd.R_lower (Kd.R_new' ho0 (Kd.R_lt (by (with_reducible repeat (first | apply Kd.R_alloc | apply Kd.R_drewN | apply Kd.R_drew)); exact HO153.out))) (below_size (by repeat (first | (with_reducible first | exact HB.out | apply below_alloc | apply pw_below_drewN | apply below_drew1) | exact HB.out)))); have n2_ := Aside0.mk (below_step (by repeat (first | (with_reducible first | exact HB.out | apply below_alloc | apply pw_below_drewN | apply below_drew1) | exact HB.out)) hb); clear HO153; clear HB; have HO153 := n0_; have HO157 := n1_; have HB := n2_; clear n0_ n1_ n2_; (try clear hb); (try clear hb2); (try clear hk); (try clear hi); (try clear ho0); obtain ⟨Ao25, co25, eo25⟩ := Kd.R_slice HO153.out; subst eo25; have p158 : 0 ≤ (0 : Int) := (by omega); have q158 : 0 < (t150.length : Int) := of_decide_eq_true (by first | (with_reducible assumption) | assumption); obtain ⟨ad158, e158, hx158_0, hx158_1, hx158_2, hx158_3, hx158_4⟩ := at_T41 (Kd.R_reads' HO153.out).2.2 0 p158 q158; cases e158; have qi158 : (0 < t150.length) = True := eq_true (by omega); (try rw [show ((0 : Int)).toNat = 0 from rfl] at hx158_0); (try rw [show 0 * 5 = 0 from rfl] at hx158_0); (try rw [Addr.add_zero'] at hx158_0); (try rw [show ((0 : Int)).toNat = 0 from rfl] at hx158_1); (try rw [show 0 * 5 = 0 from rfl] at hx158_1); (try rw [Addr.add_zero'] at hx158_1); (try rw [show ((0 : Int)).toNat = 0 from rfl] at hx158_2); (try rw [show 0 * 5 = 0 from rfl] at hx158_2); (try rw [Addr.add_zero'] at hx158_2); (try rw [show ((0 : Int)).toNat = 0 from rfl] at hx158_3); (try rw [show 0 * 5 = 0 from rfl] at hx158_3); (try rw [Addr.add_zero'] at hx158_3); (try rw [show ((0 : Int)).toNat = 0 from rfl] at hx158_4); (try rw [show 0 * 5 = 0 from rfl] at hx158_4); (try rw [Addr.add_zero'] at hx158_4); replace p158 := eq_true p158; replace q158 := eq_true q158; have p159 : 0 ≤ (1 : Int) := (by omega); have q159 : 1 < (t150.length : Int) := of_decide_eq_true (by first | (with_reducible assumption) | assumption); obtain ⟨ad159, e159, hx159_0, hx159_1, hx159_2, hx159_3, hx159_4⟩ := at_T41 (Kd.R_reads' HO153.out).2.2 1 p159 q159; obtain rfl : ad158 = ad159 := (by injection e159); (try simp only [show (1 : Int).toNat = 1 from rfl, Nat.reduceMul, Nat.reduceEqDiff, Go.Addr.add, ↓reduceIte] at hx159_0); (try simp only [show (1 : Int).toNat = 1 from rfl, Nat.reduceMul, Nat.reduceEqDiff, Go.Addr.add, ↓reduceIte] at hx159_1); (try simp only [show (1 : Int).toNat = 1 from rfl, Nat.reduceMul, Nat.reduceEqDiff, Go.Addr.add, ↓reduceIte] at hx159_2); (try simp only [show (1 : Int).toNat = 1 from rfl, Nat.reduceMul, Nat.reduceEqDiff, Go.Addr.add, ↓reduceIte] at hx159_3); (try simp only [show (1 : Int).toNat = 1 from rfl, Nat.reduceMul, Nat.reduceEqDiff, Go.Addr.add, ↓reduceIte] at hx159_4); have qi159 : (1 < t150.length) = True := eq_true (by omega); (try rw [show ((1 : Int)).toNat = 1 from rfl] at hx159_0); (try rw [show 1 * 5 = 5 from rfl] at hx159_0); (try rw [show ((1 : Int)).toNat = 1 from rfl] at hx159_1); (try rw [show 1 * 5 = 5 from rfl] at hx159_1); (try rw [show ((1 : Int)).toNat = 1 from rfl] at hx159_2); (try rw [show 1 * 5 = 5 from rfl] at hx159_2); (try rw [show ((1 : Int)).toNat = 1 from rfl] at hx159_3); (try rw [show 1 * 5 = 5 from rfl] at hx159_3); (try rw [show ((1 : Int)).toNat = 1 from rfl] at hx159_4); (try rw [show 1 * 5 = 5 from rfl] at hx159_4); replace p159 := eq_true p159; replace q159 := eq_true q159; have p160 : 0 ≤ (1 : Int) := (by omega); have q160 : 1 < (t150.length : Int) := of_decide_eq_true (by first | (with_reducible assumption) | assumption); obtain ⟨ad160, e160, hx160_0, hx160_1, hx160_2, hx160_3, hx160_4⟩ := at_T41 (Kd.R_reads' HO153.out).2.2 1 p160 q160; obtain rfl : ad158 = ad160 := (by injection e160); (try simp only [show (1 : Int).toNat = 1 from rfl, Nat.reduceMul, Nat.reduceEqDiff, Go.Addr.add, ↓reduceIte] at hx160_0); (try simp only [show (1 : Int).toNat = 1 from rfl, Nat.reduceMul, Nat.reduceEqDiff, Go.Addr.add, ↓reduceIte] at hx160_1); (try simp only [show (1 : Int).toNat = 1 from rfl, Nat.reduceMul, Nat.reduceEqDiff, Go.Addr.add, ↓reduceIte] at hx160_2); (try simp only [show (1 : Int).toNat = 1 from rfl, Nat.reduceMul, Nat.reduceEqDiff, Go.Addr.add, ↓reduceIte] at hx160_3); (try simp only [show (1 : Int).toNat = 1 from rfl, Nat.reduceMul, Nat.reduceEqDiff, Go.Addr.add, ↓reduceIte] at hx160_4); have qi160 : (1 < t150.length) = True := eq_true (by omega); (try rw [show ((1 : Int)).toNat = 1 from rfl] at hx160_0); (try rw [show 1 * 5 = 5 from rfl] at hx160_0); (try rw [show ((1 : Int)).toNat = 1 from rfl] at hx160_1); (try rw [show 1 * 5 = 5 from rfl] at hx160_1); (try rw [show ((1 : Int)).toNat = 1 from rfl] at hx160_2); (try rw [show 1 * 5 = 5 from rfl] at hx160_2); (try rw [show ((1 : Int)).toNat = 1 from rfl] at hx160_3); (try rw [show 1 * 5 = 5 from rfl] at hx160_3); (try rw [show ((1 : Int)).toNat = 1 from rfl] at hx160_4); (try rw [show 1 * 5 = 5 from rfl] at hx160_4); replace p160 := eq_true p160; replace q160 := eq_true q160; have p161 : 0 ≤ (2 : Int) := (by omega); have q161 : 2 < (t150.length : Int) := of_decide_eq_true (by first | (with_reducible assumption) | assumption); obtain ⟨ad161, e161, hx161_0, hx161_1, hx161_2, hx161_3, hx161_4⟩ := at_T41 (Kd.R_reads' HO153.out).2.2 2 p161 q161; obtain rfl : ad158 = ad161 := (by injection e161); (try simp only [show (2 : Int).toNat = 2 from rfl, Nat.reduceMul, Nat.reduceEqDiff, Go.Addr.add, ↓reduceIte] at hx161_0); (try simp only [show (2 : Int).toNat = 2 from rfl, Nat.reduceMul, Nat.reduceEqDiff, Go.Addr.add, ↓reduceIte] at hx161_1); (try simp only [show (2 : Int).toNat = 2 from rfl, Nat.reduceMul, Nat.reduceEqDiff, Go.Addr.add, ↓reduceIte] at hx161_2); (try simp only [show (2 : Int).toNat = 2 from rfl, Nat.reduceMul, Nat.reduceEqDiff, Go.Addr.add, ↓reduceIte] at hx161_3); (try simp only [show (2 : Int).toNat = 2 from rfl, Nat.reduceMul, Nat.reduceEqDiff, Go.Addr.add, ↓reduceIte] at hx161_4); have qi161 : (2 < t150.length) = True := eq_true (by omega); (try rw [show ((2 : Int)).toNat = 2 from rfl] at hx161_0); (try rw [show 2 * 5 = 10 from rfl] at hx161_0); (try rw [show ((2 : Int)).toNat = 2 from rfl] at hx161_1); (try rw [show 2 * 5 = 10 from rfl] at hx161_1); (try rw [show ((2 : Int)).toNat = 2 from rfl] at hx161_2); (try rw [show 2 * 5 = 10 from rfl] at hx161_2); (try rw [show ((2 : Int)).toNat = 2 from rfl] at hx161_3); (try rw [show 2 * 5 = 10 from rfl] at hx161_3); (try rw [show ((2 : Int)).toNat = 2 from rfl] at hx161_4); (try rw [show 2 * 5 = 10 from rfl] at hx161_4); replace p161 := eq_true p161; replace q161 := eq_true q161; have p162 : 0 ≤ (3 : Int) := (by omega); have q162 : 3 < (t150.length : Int) := of_decide_eq_true (by first | (with_reducible assumption) | assumption); obtain ⟨ad162, e162, hx162_0, hx162_1, hx162_2, hx162_3, hx162_4⟩ := at_T41 (Kd.R_reads' HO153.out).2.2 3 p162 q162; obtain rfl : ad158 = ad162 := (by injection e162); (try simp only [show (3 : Int).toNat = 3 from rfl, Nat.reduceMul, Nat.reduceEqDiff, Go.Addr.add, ↓reduceIte] at hx162_0); (try simp only [show (3 : Int).toNat = 3 from rfl, Nat.reduceMul, Nat.reduceEqDiff, Go.Addr.add, ↓reduceIte] at hx162_1); (try simp only [show (3 : Int).toNat = 3 from rfl, Nat.reduceMul, Nat.reduceEqDiff, Go.Addr.add, ↓reduceIte] at hx162_2); (try simp only [show (3 : Int).toNat = 3 from rfl, Nat.reduceMul, Nat.reduceEqDiff, Go.Addr.add, ↓reduceIte] at hx162_3); (try simp only [show (3 : Int).toNat = 3 from rfl, Nat.reduceMul, Nat.reduceEqDiff, Go.Addr.add, ↓reduceIte] at hx162_4); have qi162 : (3 < t150.length) = True := eq_true (by omega); (try rw [show ((3 : Int)).toNat = 3 from rfl] at hx162_0); (try rw [show 3 * 5 = 15 from rfl] at hx162_0); (try rw [show ((3 : Int)).toNat = 3 from rfl] at hx162_1); (try rw [show 3 * 5 = 15 from rfl] at hx162_1); (try rw [show ((3 : Int)).toNat = 3 from rfl] at hx162_2); (try rw [show 3 * 5 = 15 from rfl] at hx162_2); (try rw [show ((3 : Int)).toNat = 3 from rfl] at hx162_3); (try rw [show 3 * 5 = 15 from rfl] at hx162_3); (try rw [show ((3 : Int)).toNat = 3 from rfl] at hx162_4); (try rw [show 3 * 5 = 15 from rfl] at hx162_4); replace p162 := eq_true p162; replace q162 := eq_true q162))
                          go_ret
                          exact ⟨by first | rfl | (simp [errW_none, errW_some] <;> rfl) | (simp [*, errW_none, errW_some] <;> rfl), by repeat (first | (with_reducible first | exact HB.out | apply below_alloc | apply pw_below_drewN | apply below_drew1) | exact HB.out)⟩
                      · rw [if_neg c13] at H
                        exact absurd H (by simp)
                    · rw [if_neg c12] at H
                      have c12b0 : (((rd_T41 t150 2).f0) == 3) = false := beq_eq_false_iff_ne.mpr c12
                      have c12b1 : (((rd_T41 t150 2).f0) != 3) = true := bne_iff_ne.mpr c12
                      obtain rfl := Option.some.inj H
                      go_enter Try.func19, Try.ntmps19
                      go_wp2_with (first | ((with_reducible refine gate_callee (f := 23) rfl ?_); refine goesL_ (some 6) rfl rfl Try.func23 (by kernel_rfl) rfl #[.string (⟨#[60, 97, 32, 98, 61, 39, 49, 39, 62, 120, 38, 97, 109, 112, 59, 121, 60, 47, 97, 62]⟩ : ByteArray)] rfl (by (try simp only [List.map_toArray, List.map_cons, List.map_nil]); first | done | rfl | (simp only [List.length_drop, List.length_take]; rfl)) ?_; (with_reducible refine (lexer_Lex.calls (⟨#[60, 97, 32, 98, 61, 39, 49, 39, 62, 120, 38, 97, 109, 112, 59, 121, 60, 47, 97, 62]⟩ : ByteArray) t150 t151 _ (by first | exact hG | exact G.below hG (by repeat (first | (with_reducible first | exact HB.out | apply below_alloc | apply pw_below_drewN | apply below_drew1) | exact HB.out))) A1.out).mono ?_); rintro e w26 ⟨v152, rfl, ho0, hb⟩; refine ⟨_, rfl, ?_⟩; have n0_ := Aside0.mk (Kd.R_lower ho0 (below_size (by repeat (first | (with_reducible first | exact HB.out | apply below_alloc | apply pw_below_drewN | apply below_drew1) | exact HB.out)))); have n1_ := Aside0.mk (below_step (by repeat (first | (with_reducible first | exact HB.out | apply below_alloc | apply pw_below_drewN | apply below_drew1) | exact HB.out)) hb); clear HB; have HO153 := n0_; have HB := n1_; clear n0_ n1_; (try clear hb); (try clear hb2); (try clear hk); (try clear hi); (try clear ho0)) | ((with_reducible refine gate_callee (f := 23) rfl ?_); refine goesL_ (some 10) rfl rfl Try.func23 (by kernel_rfl) rfl #[.string (⟨#[60, 97, 32, 98, 62]⟩ : ByteArray)] rfl (by (try simp only [List.map_toArray, List.map_cons, List.map_nil]); first | done | rfl | (simp only [List.length_drop, List.length_take]; rfl)) ?_; (with_reducible refine (lexer_Lex.calls (⟨#[60, 97, 32, 98, 62]⟩ : ByteArray) t154 t155 _ (by first | exact hG | exact G.below hG (by repeat (first | (with_reducible first | exact HB.out | apply below_alloc | apply pw_below_drewN | apply below_drew1) | exact HB.out))) A2.out).mono ?_); rintro e w27 ⟨v156, rfl, ho0, hb⟩; refine ⟨_, rfl, ?_⟩; have n0_ := Aside0.mk (Kd.R_elder' (by (with_reducible repeat (first | apply Kd.R_alloc | apply Kd.R_drewN | apply Kd.R_drew)); exact HO153.out) (Kd.R_base ho0) hb); have n1_ := Aside0.mk (Kd.R_lower (Kd.R_new' ho0 (Kd.R_lt (by (with_reducible repeat (first | apply Kd.R_alloc | apply Kd.R_drewN | apply Kd.R_drew)); exact HO153.out))) (below_size (by repeat (first | (with_reducible first | exact HB.out | apply below_alloc | apply pw_below_drewN | apply below_drew1) | exact HB.out)))); have n2_ := Aside0.mk (below_step (by repeat (first | (with_reducible first | exact HB.out | apply below_alloc | apply pw_below_drewN | apply below_drew1) | exact HB.out)) hb); clear HO153; clear HB; have HO153 := n0_; have HO157 := n1_; have HB := n2_; clear n0_ n1_ n2_; (try clear hb); (try clear hb2); (try clear hk); (try clear hi); (try clear ho0); obtain ⟨Ao28, co28, eo28⟩ := Kd.R_slice HO153.out; subst eo28; have p158 : 0 ≤ (0 : Int) := (by omega); have q158 : 0 < (t150.length : Int) := of_decide_eq_true (by first | (with_reducible assumption) | assumption); obtain ⟨ad158, e158, hx158_0, hx158_1, hx158_2, hx158_3, hx158_4⟩ := at_T41 (Kd.R_reads' HO153.out).2.2 0 p158 q158; cases e158; have qi158 : (0 < t150.length) = True := eq_true (by omega); (try rw [show ((0 : Int)).toNat = 0 from rfl] at hx158_0); (try rw [show 0 * 5 = 0 from rfl] at hx158_0); (try rw [Addr.add_zero'] at hx158_0); (try rw [show ((0 : Int)).toNat = 0 from rfl] at hx158_1); (try rw [show 0 * 5 = 0 from rfl] at hx158_1); (try rw [Addr.add_zero'] at hx158_1); (try rw [show ((0 : Int)).toNat = 0 from rfl] at hx158_2); (try rw [show 0 * 5 = 0 from rfl] at hx158_2); (try rw [Addr.add_zero'] at hx158_2); (try rw [show ((0 : Int)).toNat = 0 from rfl] at hx158_3); (try rw [show 0 * 5 = 0 from rfl] at hx158_3); (try rw [Addr.add_zero'] at hx158_3); (try rw [show ((0 : Int)).toNat = 0 from rfl] at hx158_4); (try rw [show 0 * 5 = 0 from rfl] at hx158_4); (try rw [Addr.add_zero'] at hx158_4); replace p158 := eq_true p158; replace q158 := eq_true q158; have p159 : 0 ≤ (1 : Int) := (by omega); have q159 : 1 < (t150.length : Int) := of_decide_eq_true (by first | (with_reducible assumption) | assumption); obtain ⟨ad159, e159, hx159_0, hx159_1, hx159_2, hx159_3, hx159_4⟩ := at_T41 (Kd.R_reads' HO153.out).2.2 1 p159 q159; obtain rfl : ad158 = ad159 := (by injection e159); (try simp only [show (1 : Int).toNat = 1 from rfl, Nat.reduceMul, Nat.reduceEqDiff, Go.Addr.add, ↓reduceIte] at hx159_0); (try simp only [show (1 : Int).toNat = 1 from rfl, Nat.reduceMul, Nat.reduceEqDiff, Go.Addr.add, ↓reduceIte] at hx159_1); (try simp only [show (1 : Int).toNat = 1 from rfl, Nat.reduceMul, Nat.reduceEqDiff, Go.Addr.add, ↓reduceIte] at hx159_2); (try simp only [show (1 : Int).toNat = 1 from rfl, Nat.reduceMul, Nat.reduceEqDiff, Go.Addr.add, ↓reduceIte] at hx159_3); (try simp only [show (1 : Int).toNat = 1 from rfl, Nat.reduceMul, Nat.reduceEqDiff, Go.Addr.add, ↓reduceIte] at hx159_4); have qi159 : (1 < t150.length) = True := eq_true (by omega); (try rw [show ((1 : Int)).toNat = 1 from rfl] at hx159_0); (try rw [show 1 * 5 = 5 from rfl] at hx159_0); (try rw [show ((1 : Int)).toNat = 1 from rfl] at hx159_1); (try rw [show 1 * 5 = 5 from rfl] at hx159_1); (try rw [show ((1 : Int)).toNat = 1 from rfl] at hx159_2); (try rw [show 1 * 5 = 5 from rfl] at hx159_2); (try rw [show ((1 : Int)).toNat = 1 from rfl] at hx159_3); (try rw [show 1 * 5 = 5 from rfl] at hx159_3); (try rw [show ((1 : Int)).toNat = 1 from rfl] at hx159_4); (try rw [show 1 * 5 = 5 from rfl] at hx159_4); replace p159 := eq_true p159; replace q159 := eq_true q159; have p160 : 0 ≤ (1 : Int) := (by omega); have q160 : 1 < (t150.length : Int) := of_decide_eq_true (by first | (with_reducible assumption) | assumption); obtain ⟨ad160, e160, hx160_0, hx160_1, hx160_2, hx160_3, hx160_4⟩ := at_T41 (Kd.R_reads' HO153.out).2.2 1 p160 q160; obtain rfl : ad158 = ad160 := (by injection e160); (try simp only [show (1 : Int).toNat = 1 from rfl, Nat.reduceMul, Nat.reduceEqDiff, Go.Addr.add, ↓reduceIte] at hx160_0); (try simp only [show (1 : Int).toNat = 1 from rfl, Nat.reduceMul, Nat.reduceEqDiff, Go.Addr.add, ↓reduceIte] at hx160_1); (try simp only [show (1 : Int).toNat = 1 from rfl, Nat.reduceMul, Nat.reduceEqDiff, Go.Addr.add, ↓reduceIte] at hx160_2); (try simp only [show (1 : Int).toNat = 1 from rfl, Nat.reduceMul, Nat.reduceEqDiff, Go.Addr.add, ↓reduceIte] at hx160_3); (try simp only [show (1 : Int).toNat = 1 from rfl, Nat.reduceMul, Nat.reduceEqDiff, Go.Addr.add, ↓reduceIte] at hx160_4); have qi160 : (1 < t150.length) = True := eq_true (by omega); (try rw [show ((1 : Int)).toNat = 1 from rfl] at hx160_0); (try rw [show 1 * 5 = 5 from rfl] at hx160_0); (try rw [show ((1 : Int)).toNat = 1 from rfl] at hx160_1); (try rw [show 1 * 5 = 5 from rfl] at hx160_1); (try rw [show ((1 : Int)).toNat = 1 from rfl] at hx160_2); (try rw [show 1 * 5 = 5 from rfl] at hx160_2); (try rw [show ((1 : Int)).toNat = 1 from rfl] at hx160_3); (try rw [show 1 * 5 = 5 from rfl] at hx160_3); (try rw [show ((1 : Int)).toNat = 1 from rfl] at hx160_4); (try rw [show 1 * 5 = 5 from rfl] at hx160_4); replace p160 := eq_true p160; replace q160 := eq_true q160; have p161 : 0 ≤ (2 : Int) := (by omega); have q161 : 2 < (t150.length : Int) := of_decide_eq_true (by first | (with_reducible assumption) | assumption); obtain ⟨ad161, e161, hx161_0, hx161_1, hx161_2, hx161_3, hx161_4⟩ := at_T41 (Kd.R_reads' HO153.out).2.2 2 p161 q161; obtain rfl : ad158 = ad161 := (by injection e161); (try simp only [show (2 : Int).toNat = 2 from rfl, Nat.reduceMul, Nat.reduceEqDiff, Go.Addr.add, ↓reduceIte] at hx161_0); (try simp only [show (2 : Int).toNat = 2 from rfl, Nat.reduceMul, Nat.reduceEqDiff, Go.Addr.add, ↓reduceIte] at hx161_1); (try simp only [show (2 : Int).toNat = 2 from rfl, Nat.reduceMul, Nat.reduceEqDiff, Go.Addr.add, ↓reduceIte] at hx161_2); (try simp only [show (2 : Int).toNat = 2 from rfl, Nat.reduceMul, Nat.reduceEqDiff, Go.Addr.add, ↓reduceIte] at hx161_3); (try simp only [show (2 : Int).toNat = 2 from rfl, Nat.reduceMul, Nat.reduceEqDiff, Go.Addr.add, ↓reduceIte] at hx161_4); have qi161 : (2 < t150.length) = True := eq_true (by omega); (try rw [show ((2 : Int)).toNat = 2 from rfl] at hx161_0); (try rw [show 2 * 5 = 10 from rfl] at hx161_0); (try rw [show ((2 : Int)).toNat = 2 from rfl] at hx161_1); (try rw [show 2 * 5 = 10 from rfl] at hx161_1); (try rw [show ((2 : Int)).toNat = 2 from rfl] at hx161_2); (try rw [show 2 * 5 = 10 from rfl] at hx161_2); (try rw [show ((2 : Int)).toNat = 2 from rfl] at hx161_3); (try rw [show 2 * 5 = 10 from rfl] at hx161_3); (try rw [show ((2 : Int)).toNat = 2 from rfl] at hx161_4); (try rw [show 2 * 5 = 10 from rfl] at hx161_4); replace p161 := eq_true p161; replace q161 := eq_true q161))
                      go_ret
                      exact ⟨by first | rfl | (simp [errW_none, errW_some] <;> rfl) | (simp [*, errW_none, errW_some] <;> rfl), by repeat (first | (with_reducible first | exact HB.out | apply below_alloc | apply pw_below_drewN | apply below_drew1) | exact HB.out)⟩
                  · rw [if_neg c11] at H
                    exact absurd H (by simp)
                · rw [if_neg c10] at H
                  have c10b0 : (((rd_T41 t150 1).f4).toList == ([49] : List UInt8)) = false := beq_eq_false_iff_ne.mpr c10
                  have c10b1 : (((rd_T41 t150 1).f4).toList != ([49] : List UInt8)) = true := bne_iff_ne.mpr c10
                  obtain rfl := Option.some.inj H
                  go_enter Try.func19, Try.ntmps19
                  go_wp2_with (first | ((with_reducible refine gate_callee (f := 23) rfl ?_); refine goesL_ (some 6) rfl rfl Try.func23 (by kernel_rfl) rfl #[.string (⟨#[60, 97, 32, 98, 61, 39, 49, 39, 62, 120, 38, 97, 109, 112, 59, 121, 60, 47, 97, 62]⟩ : ByteArray)] rfl (by (try simp only [List.map_toArray, List.map_cons, List.map_nil]); first | done | rfl | (simp only [List.length_drop, List.length_take]; rfl)) ?_; (with_reducible refine (lexer_Lex.calls (⟨#[60, 97, 32, 98, 61, 39, 49, 39, 62, 120, 38, 97, 109, 112, 59, 121, 60, 47, 97, 62]⟩ : ByteArray) t150 t151 _ (by first | exact hG | exact G.below hG (by repeat (first | (with_reducible first | exact HB.out | apply below_alloc | apply pw_below_drewN | apply below_drew1) | exact HB.out))) A1.out).mono ?_); rintro e w29 ⟨v152, rfl, ho0, hb⟩; refine ⟨_, rfl, ?_⟩; have n0_ := Aside0.mk (Kd.R_lower ho0 (below_size (by repeat (first | (with_reducible first | exact HB.out | apply below_alloc | apply pw_below_drewN | apply below_drew1) | exact HB.out)))); have n1_ := Aside0.mk (below_step (by repeat (first | (with_reducible first | exact HB.out | apply below_alloc | apply pw_below_drewN | apply below_drew1) | exact HB.out)) hb); clear HB; have HO153 := n0_; have HB := n1_; clear n0_ n1_; (try clear hb); (try clear hb2); (try clear hk); (try clear hi); (try clear ho0)) | ((with_reducible refine gate_callee (f := 23) rfl ?_); refine goesL_ (some 10) rfl rfl Try.func23 (by kernel_rfl) rfl #[.string (⟨#[60, 97, 32, 98, 62]⟩ : ByteArray)] rfl (by (try simp only [List.map_toArray, List.map_cons, List.map_nil]); first | done | rfl | (simp only [List.length_drop, List.length_take]; rfl)) ?_; (with_reducible refine (lexer_Lex.calls (⟨#[60, 97, 32, 98, 62]⟩ : ByteArray) t154 t155 _ (by first | exact hG | exact G.below hG (by repeat (first | (with_reducible first | exact HB.out | apply below_alloc | apply pw_below_drewN | apply below_drew1) | exact HB.out))) A2.out).mono ?_); rintro e w30 ⟨v156, rfl, ho0, hb⟩; refine ⟨_, rfl, ?_⟩; have n0_ := Aside0.mk (Kd.R_elder' (by (with_reducible repeat (first | apply Kd.R_alloc | apply Kd.R_drewN | apply Kd.R_drew)); exact HO153.out) (Kd.R_base ho0) hb); have n1_ := Aside0.mk (Kd.R_lower (Kd.R_new' ho0 (Kd.R_lt (by (with_reducible repeat (first | apply Kd.R_alloc | apply Kd.R_drewN | apply Kd.R_drew)); exact HO153.out))) (below_size (by repeat (first | (with_reducible first | exact HB.out | apply below_alloc | apply pw_below_drewN | apply below_drew1) | exact HB.out)))); have n2_ := Aside0.mk (below_step (by repeat (first | (with_reducible first | exact HB.out | apply below_alloc | apply pw_below_drewN | apply below_drew1) | exact HB.out)) hb); clear HO153; clear HB; have HO153 := n0_; have HO157 := n1_; have HB := n2_; clear n0_ n1_ n2_; (try clear hb); (try clear hb2); (try clear hk); (try clear hi); (try clear ho0); obtain ⟨Ao31, co31, eo31⟩ := Kd.R_slice HO153.out; subst eo31; have p158 : 0 ≤ (0 : Int) := (by omega); have q158 : 0 < (t150.length : Int) := of_decide_eq_true (by first | (with_reducible assumption) | assumption); obtain ⟨ad158, e158, hx158_0, hx158_1, hx158_2, hx158_3, hx158_4⟩ := at_T41 (Kd.R_reads' HO153.out).2.2 0 p158 q158; cases e158; have qi158 : (0 < t150.length) = True := eq_true (by omega); (try rw [show ((0 : Int)).toNat = 0 from rfl] at hx158_0); (try rw [show 0 * 5 = 0 from rfl] at hx158_0); (try rw [Addr.add_zero'] at hx158_0); (try rw [show ((0 : Int)).toNat = 0 from rfl] at hx158_1); (try rw [show 0 * 5 = 0 from rfl] at hx158_1); (try rw [Addr.add_zero'] at hx158_1); (try rw [show ((0 : Int)).toNat = 0 from rfl] at hx158_2); (try rw [show 0 * 5 = 0 from rfl] at hx158_2); (try rw [Addr.add_zero'] at hx158_2); (try rw [show ((0 : Int)).toNat = 0 from rfl] at hx158_3); (try rw [show 0 * 5 = 0 from rfl] at hx158_3); (try rw [Addr.add_zero'] at hx158_3); (try rw [show ((0 : Int)).toNat = 0 from rfl] at hx158_4); (try rw [show 0 * 5 = 0 from rfl] at hx158_4); (try rw [Addr.add_zero'] at hx158_4); replace p158 := eq_true p158; replace q158 := eq_true q158; have p159 : 0 ≤ (1 : Int) := (by omega); have q159 : 1 < (t150.length : Int) := of_decide_eq_true (by first | (with_reducible assumption) | assumption); obtain ⟨ad159, e159, hx159_0, hx159_1, hx159_2, hx159_3, hx159_4⟩ := at_T41 (Kd.R_reads' HO153.out).2.2 1 p159 q159; obtain rfl : ad158 = ad159 := (by injection e159); (try simp only [show (1 : Int).toNat = 1 from rfl, Nat.reduceMul, Nat.reduceEqDiff, Go.Addr.add, ↓reduceIte] at hx159_0); (try simp only [show (1 : Int).toNat = 1 from rfl, Nat.reduceMul, Nat.reduceEqDiff, Go.Addr.add, ↓reduceIte] at hx159_1); (try simp only [show (1 : Int).toNat = 1 from rfl, Nat.reduceMul, Nat.reduceEqDiff, Go.Addr.add, ↓reduceIte] at hx159_2); (try simp only [show (1 : Int).toNat = 1 from rfl, Nat.reduceMul, Nat.reduceEqDiff, Go.Addr.add, ↓reduceIte] at hx159_3); (try simp only [show (1 : Int).toNat = 1 from rfl, Nat.reduceMul, Nat.reduceEqDiff, Go.Addr.add, ↓reduceIte] at hx159_4); have qi159 : (1 < t150.length) = True := eq_true (by omega); (try rw [show ((1 : Int)).toNat = 1 from rfl] at hx159_0); (try rw [show 1 * 5 = 5 from rfl] at hx159_0); (try rw [show ((1 : Int)).toNat = 1 from rfl] at hx159_1); (try rw [show 1 * 5 = 5 from rfl] at hx159_1); (try rw [show ((1 : Int)).toNat = 1 from rfl] at hx159_2); (try rw [show 1 * 5 = 5 from rfl] at hx159_2); (try rw [show ((1 : Int)).toNat = 1 from rfl] at hx159_3); (try rw [show 1 * 5 = 5 from rfl] at hx159_3); (try rw [show ((1 : Int)).toNat = 1 from rfl] at hx159_4); (try rw [show 1 * 5 = 5 from rfl] at hx159_4); replace p159 := eq_true p159; replace q159 := eq_true q159; have p160 : 0 ≤ (1 : Int) := (by omega); have q160 : 1 < (t150.length : Int) := of_decide_eq_true (by first | (with_reducible assumption) | assumption); obtain ⟨ad160, e160, hx160_0, hx160_1, hx160_2, hx160_3, hx160_4⟩ := at_T41 (Kd.R_reads' HO153.out).2.2 1 p160 q160; obtain rfl : ad158 = ad160 := (by injection e160); (try simp only [show (1 : Int).toNat = 1 from rfl, Nat.reduceMul, Nat.reduceEqDiff, Go.Addr.add, ↓reduceIte] at hx160_0); (try simp only [show (1 : Int).toNat = 1 from rfl, Nat.reduceMul, Nat.reduceEqDiff, Go.Addr.add, ↓reduceIte] at hx160_1); (try simp only [show (1 : Int).toNat = 1 from rfl, Nat.reduceMul, Nat.reduceEqDiff, Go.Addr.add, ↓reduceIte] at hx160_2); (try simp only [show (1 : Int).toNat = 1 from rfl, Nat.reduceMul, Nat.reduceEqDiff, Go.Addr.add, ↓reduceIte] at hx160_3); (try simp only [show (1 : Int).toNat = 1 from rfl, Nat.reduceMul, Nat.reduceEqDiff, Go.Addr.add, ↓reduceIte] at hx160_4); have qi160 : (1 < t150.length) = True := eq_true (by omega); (try rw [show ((1 : Int)).toNat = 1 from rfl] at hx160_0); (try rw [show 1 * 5 = 5 from rfl] at hx160_0); (try rw [show ((1 : Int)).toNat = 1 from rfl] at hx160_1); (try rw [show 1 * 5 = 5 from rfl] at hx160_1); (try rw [show ((1 : Int)).toNat = 1 from rfl] at hx160_2); (try rw [show 1 * 5 = 5 from rfl] at hx160_2); (try rw [show ((1 : Int)).toNat = 1 from rfl] at hx160_3); (try rw [show 1 * 5 = 5 from rfl] at hx160_3); (try rw [show ((1 : Int)).toNat = 1 from rfl] at hx160_4); (try rw [show 1 * 5 = 5 from rfl] at hx160_4); replace p160 := eq_true p160; replace q160 := eq_true q160))
                  go_ret
                  exact ⟨by first | rfl | (simp [errW_none, errW_some] <;> rfl) | (simp [*, errW_none, errW_some] <;> rfl), by repeat (first | (with_reducible first | exact HB.out | apply below_alloc | apply pw_below_drewN | apply below_drew1) | exact HB.out)⟩
              · rw [if_neg c9] at H
                have c9b0 : (((rd_T41 t150 1).f3).toList == ([98] : List UInt8)) = false := beq_eq_false_iff_ne.mpr c9
                have c9b1 : (((rd_T41 t150 1).f3).toList != ([98] : List UInt8)) = true := bne_iff_ne.mpr c9
                obtain rfl := Option.some.inj H
                go_enter Try.func19, Try.ntmps19
                go_wp2_with (first | ((with_reducible refine gate_callee (f := 23) rfl ?_); refine goesL_ (some 6) rfl rfl Try.func23 (by kernel_rfl) rfl #[.string (⟨#[60, 97, 32, 98, 61, 39, 49, 39, 62, 120, 38, 97, 109, 112, 59, 121, 60, 47, 97, 62]⟩ : ByteArray)] rfl (by (try simp only [List.map_toArray, List.map_cons, List.map_nil]); first | done | rfl | (simp only [List.length_drop, List.length_take]; rfl)) ?_; (with_reducible refine (lexer_Lex.calls (⟨#[60, 97, 32, 98, 61, 39, 49, 39, 62, 120, 38, 97, 109, 112, 59, 121, 60, 47, 97, 62]⟩ : ByteArray) t150 t151 _ (by first | exact hG | exact G.below hG (by repeat (first | (with_reducible first | exact HB.out | apply below_alloc | apply pw_below_drewN | apply below_drew1) | exact HB.out))) A1.out).mono ?_); rintro e w32 ⟨v152, rfl, ho0, hb⟩; refine ⟨_, rfl, ?_⟩; have n0_ := Aside0.mk (Kd.R_lower ho0 (below_size (by repeat (first | (with_reducible first | exact HB.out | apply below_alloc | apply pw_below_drewN | apply below_drew1) | exact HB.out)))); have n1_ := Aside0.mk (below_step (by repeat (first | (with_reducible first | exact HB.out | apply below_alloc | apply pw_below_drewN | apply below_drew1) | exact HB.out)) hb); clear HB; have HO153 := n0_; have HB := n1_; clear n0_ n1_; (try clear hb); (try clear hb2); (try clear hk); (try clear hi); (try clear ho0)) | ((with_reducible refine gate_callee (f := 23) rfl ?_); refine goesL_ (some 10) rfl rfl Try.func23 (by kernel_rfl) rfl #[.string (⟨#[60, 97, 32, 98, 62]⟩ : ByteArray)] rfl (by (try simp only [List.map_toArray, List.map_cons, List.map_nil]); first | done | rfl | (simp only [List.length_drop, List.length_take]; rfl)) ?_; (with_reducible refine (lexer_Lex.calls (⟨#[60, 97, 32, 98, 62]⟩ : ByteArray) t154 t155 _ (by first | exact hG | exact G.below hG (by repeat (first | (with_reducible first | exact HB.out | apply below_alloc | apply pw_below_drewN | apply below_drew1) | exact HB.out))) A2.out).mono ?_); rintro e w33 ⟨v156, rfl, ho0, hb⟩; refine ⟨_, rfl, ?_⟩; have n0_ := Aside0.mk (Kd.R_elder' (by (with_reducible repeat (first | apply Kd.R_alloc | apply Kd.R_drewN | apply Kd.R_drew)); exact HO153.out) (Kd.R_base ho0) hb); have n1_ := Aside0.mk (Kd.R_lower (Kd.R_new' ho0 (Kd.R_lt (by (with_reducible repeat (first | apply Kd.R_alloc | apply Kd.R_drewN | apply Kd.R_drew)); exact HO153.out))) (below_size (by repeat (first | (with_reducible first | exact HB.out | apply below_alloc | apply pw_below_drewN | apply below_drew1) | exact HB.out)))); have n2_ := Aside0.mk (below_step (by repeat (first | (with_reducible first | exact HB.out | apply below_alloc | apply pw_below_drewN | apply below_drew1) | exact HB.out)) hb); clear HO153; clear HB; have HO153 := n0_; have HO157 := n1_; have HB := n2_; clear n0_ n1_ n2_; (try clear hb); (try clear hb2); (try clear hk); (try clear hi); (try clear ho0); obtain ⟨Ao34, co34, eo34⟩ := Kd.R_slice HO153.out; subst eo34; have p158 : 0 ≤ (0 : Int) := (by omega); have q158 : 0 < (t150.length : Int) := of_decide_eq_true (by first | (with_reducible assumption) | assumption); obtain ⟨ad158, e158, hx158_0, hx158_1, hx158_2, hx158_3, hx158_4⟩ := at_T41 (Kd.R_reads' HO153.out).2.2 0 p158 q158; cases e158; have qi158 : (0 < t150.length) = True := eq_true (by omega); (try rw [show ((0 : Int)).toNat = 0 from rfl] at hx158_0); (try rw [show 0 * 5 = 0 from rfl] at hx158_0); (try rw [Addr.add_zero'] at hx158_0); (try rw [show ((0 : Int)).toNat = 0 from rfl] at hx158_1); (try rw [show 0 * 5 = 0 from rfl] at hx158_1); (try rw [Addr.add_zero'] at hx158_1); (try rw [show ((0 : Int)).toNat = 0 from rfl] at hx158_2); (try rw [show 0 * 5 = 0 from rfl] at hx158_2); (try rw [Addr.add_zero'] at hx158_2); (try rw [show ((0 : Int)).toNat = 0 from rfl] at hx158_3); (try rw [show 0 * 5 = 0 from rfl] at hx158_3); (try rw [Addr.add_zero'] at hx158_3); (try rw [show ((0 : Int)).toNat = 0 from rfl] at hx158_4); (try rw [show 0 * 5 = 0 from rfl] at hx158_4); (try rw [Addr.add_zero'] at hx158_4); replace p158 := eq_true p158; replace q158 := eq_true q158; have p159 : 0 ≤ (1 : Int) := (by omega); have q159 : 1 < (t150.length : Int) := of_decide_eq_true (by first | (with_reducible assumption) | assumption); obtain ⟨ad159, e159, hx159_0, hx159_1, hx159_2, hx159_3, hx159_4⟩ := at_T41 (Kd.R_reads' HO153.out).2.2 1 p159 q159; obtain rfl : ad158 = ad159 := (by injection e159); (try simp only [show (1 : Int).toNat = 1 from rfl, Nat.reduceMul, Nat.reduceEqDiff, Go.Addr.add, ↓reduceIte] at hx159_0); (try simp only [show (1 : Int).toNat = 1 from rfl, Nat.reduceMul, Nat.reduceEqDiff, Go.Addr.add, ↓reduceIte] at hx159_1); (try simp only [show (1 : Int).toNat = 1 from rfl, Nat.reduceMul, Nat.reduceEqDiff, Go.Addr.add, ↓reduceIte] at hx159_2); (try simp only [show (1 : Int).toNat = 1 from rfl, Nat.reduceMul, Nat.reduceEqDiff, Go.Addr.add, ↓reduceIte] at hx159_3); (try simp only [show (1 : Int).toNat = 1 from rfl, Nat.reduceMul, Nat.reduceEqDiff, Go.Addr.add, ↓reduceIte] at hx159_4); have qi159 : (1 < t150.length) = True := eq_true (by omega); (try rw [show ((1 : Int)).toNat = 1 from rfl] at hx159_0); (try rw [show 1 * 5 = 5 from rfl] at hx159_0); (try rw [show ((1 : Int)).toNat = 1 from rfl] at hx159_1); (try rw [show 1 * 5 = 5 from rfl] at hx159_1); (try rw [show ((1 : Int)).toNat = 1 from rfl] at hx159_2); (try rw [show 1 * 5 = 5 from rfl] at hx159_2); (try rw [show ((1 : Int)).toNat = 1 from rfl] at hx159_3); (try rw [show 1 * 5 = 5 from rfl] at hx159_3); (try rw [show ((1 : Int)).toNat = 1 from rfl] at hx159_4); (try rw [show 1 * 5 = 5 from rfl] at hx159_4); replace p159 := eq_true p159; replace q159 := eq_true q159))
                go_ret
                exact ⟨by first | rfl | (simp [errW_none, errW_some] <;> rfl) | (simp [*, errW_none, errW_some] <;> rfl), by repeat (first | (with_reducible first | exact HB.out | apply below_alloc | apply pw_below_drewN | apply below_drew1) | exact HB.out)⟩
            · rw [if_neg c8] at H
              exact absurd H (by simp)
          · rw [if_neg c7] at H
            have c7b0 : (((rd_T41 t150 0).f0) == 1) = false := beq_eq_false_iff_ne.mpr c7
            have c7b1 : (((rd_T41 t150 0).f0) != 1) = true := bne_iff_ne.mpr c7
            obtain rfl := Option.some.inj H
            go_enter Try.func19, Try.ntmps19
            go_wp2_with (first | ((with_reducible refine gate_callee (f := 23) rfl ?_); refine goesL_ (some 6) rfl rfl Try.func23 (by kernel_rfl) rfl #[.string (⟨#[60, 97, 32, 98, 61, 39, 49, 39, 62, 120, 38, 97, 109, 112, 59, 121, 60, 47, 97, 62]⟩ : ByteArray)] rfl (by (try simp only [List.map_toArray, List.map_cons, List.map_nil]); first | done | rfl | (simp only [List.length_drop, List.length_take]; rfl)) ?_; (with_reducible refine (lexer_Lex.calls (⟨#[60, 97, 32, 98, 61, 39, 49, 39, 62, 120, 38, 97, 109, 112, 59, 121, 60, 47, 97, 62]⟩ : ByteArray) t150 t151 _ (by first | exact hG | exact G.below hG (by repeat (first | (with_reducible first | exact HB.out | apply below_alloc | apply pw_below_drewN | apply below_drew1) | exact HB.out))) A1.out).mono ?_); rintro e w35 ⟨v152, rfl, ho0, hb⟩; refine ⟨_, rfl, ?_⟩; have n0_ := Aside0.mk (Kd.R_lower ho0 (below_size (by repeat (first | (with_reducible first | exact HB.out | apply below_alloc | apply pw_below_drewN | apply below_drew1) | exact HB.out)))); have n1_ := Aside0.mk (below_step (by repeat (first | (with_reducible first | exact HB.out | apply below_alloc | apply pw_below_drewN | apply below_drew1) | exact HB.out)) hb); clear HB; have HO153 := n0_; have HB := n1_; clear n0_ n1_; (try clear hb); (try clear hb2); (try clear hk); (try clear hi); (try clear ho0)) | ((with_reducible refine gate_callee (f := 23) rfl ?_); refine goesL_ (some 10) rfl rfl Try.func23 (by kernel_rfl) rfl #[.string (⟨#[60, 97, 32, 98, 62]⟩ : ByteArray)] rfl (by (try simp only [List.map_toArray, List.map_cons, List.map_nil]); first | done | rfl | (simp only [List.length_drop, List.length_take]; rfl)) ?_; (with_reducible refine (lexer_Lex.calls (⟨#[60, 97, 32, 98, 62]⟩ : ByteArray) t154 t155 _ (by first | exact hG | exact G.below hG (by repeat (first | (with_reducible first | exact HB.out | apply below_alloc | apply pw_below_drewN | apply below_drew1) | exact HB.out))) A2.out).mono ?_); rintro e w36 ⟨v156, rfl, ho0, hb⟩; refine ⟨_, rfl, ?_⟩; have n0_ := Aside0.mk (Kd.R_elder' (by (with_reducible repeat (first | apply Kd.R_alloc | apply Kd.R_drewN | apply Kd.R_drew)); exact HO153.out) (Kd.R_base ho0) hb); have n1_ := Aside0.mk (Kd.R_lower (Kd.R_new' ho0 (Kd.R_lt (by (with_reducible repeat (first | apply Kd.R_alloc | apply Kd.R_drewN | apply Kd.R_drew)); exact HO153.out))) (below_size (by repeat (first | (with_reducible first | exact HB.out | apply below_alloc | apply pw_below_drewN | apply below_drew1) | exact HB.out)))); have n2_ := Aside0.mk (below_step (by repeat (first | (with_reducible first | exact HB.out | apply below_alloc | apply pw_below_drewN | apply below_drew1) | exact HB.out)) hb); clear HO153; clear HB; have HO153 := n0_; have HO157 := n1_; have HB := n2_; clear n0_ n1_ n2_; (try clear hb); (try clear hb2); (try clear hk); (try clear hi); (try clear ho0); obtain ⟨Ao37, co37, eo37⟩ := Kd.R_slice HO153.out; subst eo37; have p158 : 0 ≤ (0 : Int) := (by omega); have q158 : 0 < (t150.length : Int) := of_decide_eq_true (by first | (with_reducible assumption) | assumption); obtain ⟨ad158, e158, hx158_0, hx158_1, hx158_2, hx158_3, hx158_4⟩ := at_T41 (Kd.R_reads' HO153.out).2.2 0 p158 q158; cases e158; have qi158 : (0 < t150.length) = True := eq_true (by omega); (try rw [show ((0 : Int)).toNat = 0 from rfl] at hx158_0); (try rw [show 0 * 5 = 0 from rfl] at hx158_0); (try rw [Addr.add_zero'] at hx158_0); (try rw [show ((0 : Int)).toNat = 0 from rfl] at hx158_1); (try rw [show 0 * 5 = 0 from rfl] at hx158_1); (try rw [Addr.add_zero'] at hx158_1); (try rw [show ((0 : Int)).toNat = 0 from rfl] at hx158_2); (try rw [show 0 * 5 = 0 from rfl] at hx158_2); (try rw [Addr.add_zero'] at hx158_2); (try rw [show ((0 : Int)).toNat = 0 from rfl] at hx158_3); (try rw [show 0 * 5 = 0 from rfl] at hx158_3); (try rw [Addr.add_zero'] at hx158_3); (try rw [show ((0 : Int)).toNat = 0 from rfl] at hx158_4); (try rw [show 0 * 5 = 0 from rfl] at hx158_4); (try rw [Addr.add_zero'] at hx158_4); replace p158 := eq_true p158; replace q158 := eq_true q158))
            go_ret
            exact ⟨by first | rfl | (simp [errW_none, errW_some] <;> rfl) | (simp [*, errW_none, errW_some] <;> rfl), by repeat (first | (with_reducible first | exact HB.out | apply below_alloc | apply pw_below_drewN | apply below_drew1) | exact HB.out)⟩
        · rw [if_neg c6] at H
          exact absurd H (by simp)
      · rw [if_neg c5] at H
        have c5b0 : ((t150.length : Int) == 5) = false := beq_eq_false_iff_ne.mpr c5
        have c5b1 : ((t150.length : Int) != 5) = true := bne_iff_ne.mpr c5
        obtain rfl := Option.some.inj H
        go_enter Try.func19, Try.ntmps19
        go_wp2_with (first | ((with_reducible refine gate_callee (f := 23) rfl ?_); refine goesL_ (some 6) rfl rfl Try.func23 (by kernel_rfl) rfl #[.string (⟨#[60, 97, 32, 98, 61, 39, 49, 39, 62, 120, 38, 97, 109, 112, 59, 121, 60, 47, 97, 62]⟩ : ByteArray)] rfl (by (try simp only [List.map_toArray, List.map_cons, List.map_nil]); first | done | rfl | (simp only [List.length_drop, List.length_take]; rfl)) ?_; (with_reducible refine (lexer_Lex.calls (⟨#[60, 97, 32, 98, 61, 39, 49, 39, 62, 120, 38, 97, 109, 112, 59, 121, 60, 47, 97, 62]⟩ : ByteArray) t150 t151 _ (by first | exact hG | exact G.below hG (by repeat (first | (with_reducible first | exact HB.out | apply below_alloc | apply pw_below_drewN | apply below_drew1) | exact HB.out))) A1.out).mono ?_); rintro e w38 ⟨v152, rfl, ho0, hb⟩; refine ⟨_, rfl, ?_⟩; have n0_ := Aside0.mk (Kd.R_lower ho0 (below_size (by repeat (first | (with_reducible first | exact HB.out | apply below_alloc | apply pw_below_drewN | apply below_drew1) | exact HB.out)))); have n1_ := Aside0.mk (below_step (by repeat (first | (with_reducible first | exact HB.out | apply below_alloc | apply pw_below_drewN | apply below_drew1) | exact HB.out)) hb); clear HB; have HO153 := n0_; have HB := n1_; clear n0_ n1_; (try clear hb); (try clear hb2); (try clear hk); (try clear hi); (try clear ho0)) | ((with_reducible refine gate_callee (f := 23) rfl ?_); refine goesL_ (some 10) rfl rfl Try.func23 (by kernel_rfl) rfl #[.string (⟨#[60, 97, 32, 98, 62]⟩ : ByteArray)] rfl (by (try simp only [List.map_toArray, List.map_cons, List.map_nil]); first | done | rfl | (simp only [List.length_drop, List.length_take]; rfl)) ?_; (with_reducible refine (lexer_Lex.calls (⟨#[60, 97, 32, 98, 62]⟩ : ByteArray) t154 t155 _ (by first | exact hG | exact G.below hG (by repeat (first | (with_reducible first | exact HB.out | apply below_alloc | apply pw_below_drewN | apply below_drew1) | exact HB.out))) A2.out).mono ?_); rintro e w39 ⟨v156, rfl, ho0, hb⟩; refine ⟨_, rfl, ?_⟩; have n0_ := Aside0.mk (Kd.R_elder' (by (with_reducible repeat (first | apply Kd.R_alloc | apply Kd.R_drewN | apply Kd.R_drew)); exact HO153.out) (Kd.R_base ho0) hb); have n1_ := Aside0.mk (Kd.R_lower (Kd.R_new' ho0 (Kd.R_lt (by (with_reducible repeat (first | apply Kd.R_alloc | apply Kd.R_drewN | apply Kd.R_drew)); exact HO153.out))) (below_size (by repeat (first | (with_reducible first | exact HB.out | apply below_alloc | apply pw_below_drewN | apply below_drew1) | exact HB.out)))); have n2_ := Aside0.mk (below_step (by repeat (first | (with_reducible first | exact HB.out | apply below_alloc | apply pw_below_drewN | apply below_drew1) | exact HB.out)) hb); clear HO153; clear HB; have HO153 := n0_; have HO157 := n1_; have HB := n2_; clear n0_ n1_ n2_; (try clear hb); (try clear hb2); (try clear hk); (try clear hi); (try clear ho0); obtain ⟨Ao40, co40, eo40⟩ := Kd.R_slice HO153.out; subst eo40))
        go_ret
        exact ⟨by first | rfl | (simp [errW_none, errW_some] <;> rfl) | (simp [*, errW_none, errW_some] <;> rfl), by repeat (first | (with_reducible first | exact HB.out | apply below_alloc | apply pw_below_drewN | apply below_drew1) | exact HB.out)⟩
    · rw [if_neg c4] at H
      have c4b0 : (t155 == 15) = false := beq_eq_false_iff_ne.mpr c4
      have c4b1 : (t155 != 15) = true := bne_iff_ne.mpr c4
      obtain rfl := Option.some.inj H
      go_enter Try.func19, Try.ntmps19
      go_wp2_with (first | ((with_reducible refine gate_callee (f := 23) rfl ?_); refine goesL_ (some 6) rfl rfl Try.func23 (by kernel_rfl) rfl #[.string (⟨#[60, 97, 32, 98, 61, 39, 49, 39, 62, 120, 38, 97, 109, 112, 59, 121, 60, 47, 97, 62]⟩ : ByteArray)] rfl (by (try simp only [List.map_toArray, List.map_cons, List.map_nil]); first | done | rfl | (simp only [List.length_drop, List.length_take]; rfl)) ?_; (with_reducible refine (lexer_Lex.calls (⟨#[60, 97, 32, 98, 61, 39, 49, 39, 62, 120, 38, 97, 109, 112, 59, 121, 60, 47, 97, 62]⟩ : ByteArray) t150 t151 _ (by first | exact hG | exact G.below hG (by repeat (first | (with_reducible first | exact HB.out | apply below_alloc | apply pw_below_drewN | apply below_drew1) | exact HB.out))) A1.out).mono ?_); rintro e w41 ⟨v152, rfl, ho0, hb⟩; refine ⟨_, rfl, ?_⟩; have n0_ := Aside0.mk (Kd.R_lower ho0 (below_size (by repeat (first | (with_reducible first | exact HB.out | apply below_alloc | apply pw_below_drewN | apply below_drew1) | exact HB.out)))); have n1_ := Aside0.mk (below_step (by repeat (first | (with_reducible first | exact HB.out | apply below_alloc | apply pw_below_drewN | apply below_drew1) | exact HB.out)) hb); clear HB; have HO153 := n0_; have HB := n1_; clear n0_ n1_; (try clear hb); (try clear hb2); (try clear hk); (try clear hi); (try clear ho0)) | ((with_reducible refine gate_callee (f := 23) rfl ?_); refine goesL_ (some 10) rfl rfl Try.func23 (by kernel_rfl) rfl #[.string (⟨#[60, 97, 32, 98, 62]⟩ : ByteArray)] rfl (by (try simp only [List.map_toArray, List.map_cons, List.map_nil]); first | done | rfl | (simp only [List.length_drop, List.length_take]; rfl)) ?_; (with_reducible refine (lexer_Lex.calls (⟨#[60, 97, 32, 98, 62]⟩ : ByteArray) t154 t155 _ (by first | exact hG | exact G.below hG (by repeat (first | (with_reducible first | exact HB.out | apply below_alloc | apply pw_below_drewN | apply below_drew1) | exact HB.out))) A2.out).mono ?_); rintro e w42 ⟨v156, rfl, ho0, hb⟩; refine ⟨_, rfl, ?_⟩; have n0_ := Aside0.mk (Kd.R_elder' (by (with_reducible repeat (first | apply Kd.R_alloc | apply Kd.R_drewN | apply Kd.R_drew)); exact HO153.out) (Kd.R_base ho0) hb); have n1_ := Aside0.mk (Kd.R_lower (Kd.R_new' ho0 (Kd.R_lt (by (with_reducible repeat (first | apply Kd.R_alloc | apply Kd.R_drewN | apply Kd.R_drew)); exact HO153.out))) (below_size (by repeat (first | (with_reducible first | exact HB.out | apply below_alloc | apply pw_below_drewN | apply below_drew1) | exact HB.out)))); have n2_ := Aside0.mk (below_step (by repeat (first | (with_reducible first | exact HB.out | apply below_alloc | apply pw_below_drewN | apply below_drew1) | exact HB.out)) hb); clear HO153; clear HB; have HO153 := n0_; have HO157 := n1_; have HB := n2_; clear n0_ n1_ n2_; (try clear hb); (try clear hb2); (try clear hk); (try clear hi); (try clear ho0)))
      go_ret
      exact ⟨by first | rfl | (simp [errW_none, errW_some] <;> rfl) | (simp [*, errW_none, errW_some] <;> rfl), by repeat (first | (with_reducible first | exact HB.out | apply below_alloc | apply pw_below_drewN | apply below_drew1) | exact HB.out)⟩
  · rw [if_neg c3] at H
    have c3b0 : (t151 == 0) = false := beq_eq_false_iff_ne.mpr c3
    have c3b1 : (t151 != 0) = true := bne_iff_ne.mpr c3
    obtain rfl := Option.some.inj H
    go_enter Try.func19, Try.ntmps19
    go_wp2_with (first | ((with_reducible refine gate_callee (f := 23) rfl ?_); refine goesL_ (some 6) rfl rfl Try.func23 (by kernel_rfl) rfl #[.string (⟨#[60, 97, 32, 98, 61, 39, 49, 39, 62, 120, 38, 97, 109, 112, 59, 121, 60, 47, 97, 62]⟩ : ByteArray)] rfl (by (try simp only [List.map_toArray, List.map_cons, List.map_nil]); first | done | rfl | (simp only [List.length_drop, List.length_take]; rfl)) ?_; (with_reducible refine (lexer_Lex.calls (⟨#[60, 97, 32, 98, 61, 39, 49, 39, 62, 120, 38, 97, 109, 112, 59, 121, 60, 47, 97, 62]⟩ : ByteArray) t150 t151 _ (by first | exact hG | exact G.below hG (by repeat (first | (with_reducible first | exact HB.out | apply below_alloc | apply pw_below_drewN | apply below_drew1) | exact HB.out))) A1.out).mono ?_); rintro e w43 ⟨v152, rfl, ho0, hb⟩; refine ⟨_, rfl, ?_⟩; have n0_ := Aside0.mk (Kd.R_lower ho0 (below_size (by repeat (first | (with_reducible first | exact HB.out | apply below_alloc | apply pw_below_drewN | apply below_drew1) | exact HB.out)))); have n1_ := Aside0.mk (below_step (by repeat (first | (with_reducible first | exact HB.out | apply below_alloc | apply pw_below_drewN | apply below_drew1) | exact HB.out)) hb); clear HB; have HO153 := n0_; have HB := n1_; clear n0_ n1_; (try clear hb); (try clear hb2); (try clear hk); (try clear hi); (try clear ho0)) | ((with_reducible refine gate_callee (f := 23) rfl ?_); refine goesL_ (some 10) rfl rfl Try.func23 (by kernel_rfl) rfl #[.string (⟨#[60, 97, 32, 98, 62]⟩ : ByteArray)] rfl (by (try simp only [List.map_toArray, List.map_cons, List.map_nil]); first | done | rfl | (simp only [List.length_drop, List.length_take]; rfl)) ?_; (with_reducible refine (lexer_Lex.calls (⟨#[60, 97, 32, 98, 62]⟩ : ByteArray) t154 t155 _ (by first | exact hG | exact G.below hG (by repeat (first | (with_reducible first | exact HB.out | apply below_alloc | apply pw_below_drewN | apply below_drew1) | exact HB.out))) A2.out).mono ?_); rintro e w44 ⟨v156, rfl, ho0, hb⟩; refine ⟨_, rfl, ?_⟩; have n0_ := Aside0.mk (Kd.R_elder' (by (with_reducible repeat (first | apply Kd.R_alloc | apply Kd.R_drewN | apply Kd.R_drew)); exact HO153.out) (Kd.R_base ho0) hb); have n1_ := Aside0.mk (Kd.R_lower (Kd.R_new' ho0 (Kd.R_lt (by (with_reducible repeat (first | apply Kd.R_alloc | apply Kd.R_drewN | apply Kd.R_drew)); exact HO153.out))) (below_size (by repeat (first | (with_reducible first | exact HB.out | apply below_alloc | apply pw_below_drewN | apply below_drew1) | exact HB.out)))); have n2_ := Aside0.mk (below_step (by repeat (first | (with_reducible first | exact HB.out | apply below_alloc | apply pw_below_drewN | apply below_drew1) | exact HB.out)) hb); clear HO153; clear HB; have HO153 := n0_; have HO157 := n1_; have HB := n2_; clear n0_ n1_ n2_; (try clear hb); (try clear hb2); (try clear hk); (try clear hi); (try clear ho0)))
    go_ret
    exact ⟨by first | rfl | (simp [errW_none, errW_some] <;> rfl) | (simp [*, errW_none, errW_some] <;> rfl), by repeat (first | (with_reducible first | exact HB.out | apply below_alloc | apply pw_below_drewN | apply below_drew1) | exact HB.out)⟩
def topiarylaw12_short.f (a0 : ByteArray) (a1 : Int) : Option (ByteArray) := if (a0.size : Int) > a1 then (if 0 ≤ a1 then (if a1 ≤ (a0.size : Int) then (some (a0.extract 0 (a1 : Int).toNat)) else (none)) else (none)) else (some a0)
set_option maxHeartbeats 8000000 in
set_option maxRecDepth 100000 in
theorem topiarylaw12_short.calls (a0 : ByteArray) (a1 : Int) (r : ByteArray) (w : World) (h : topiarylaw12_short.f a0 a1 = some r) :
    Calls Try.prog 20 #[.string a0, .int .i64 a1] w fun e w' => e = .returned (.string r) ∧ Drawn0 w w' := by
  have H : (if (a0.size : Int) > a1 then (if 0 ≤ a1 then (if a1 ≤ (a0.size : Int) then (some (a0.extract 0 (a1 : Int).toNat)) else (none)) else (none)) else (some a0)) = some r := h
  clear h
  by_cases c3 : (a0.size : Int) > a1
  · rw [if_pos c3] at H
    have c3b0 : decide (a1 < (a0.size : Int)) = true := decide_eq_true c3
    clear c3
    by_cases c4 : 0 ≤ a1
    · rw [if_pos c4] at H
      have c4b0 := eq_true c4
      have c4b1 : decide (0 ≤ a1) = true := decide_eq_true c4
      clear c4
      by_cases c5 : a1 ≤ (a0.size : Int)
      · rw [if_pos c5] at H
        have c5b0 := eq_true c5
        have c5b1 : decide (a1 ≤ (a0.size : Int)) = true := decide_eq_true c5
        clear c5
        obtain rfl := Option.some.inj H
        go_enter Try.func20, Try.ntmps20
        go_wp2
        go_ret
        exact ⟨by first | rfl | (simp; done) | (simp [*]; done), by repeat (first | exact Drawn0.refl _ | apply Drawn0.step)⟩
      · rw [if_neg c5] at H
        exact absurd H (by simp)
    · rw [if_neg c4] at H
      exact absurd H (by simp)
  · rw [if_neg c3] at H
    have c3b0 : decide (a1 < (a0.size : Int)) = false := decide_eq_false c3
    clear c3
    obtain rfl := Option.some.inj H
    go_enter Try.func20, Try.ntmps20
    go_wp2
    go_ret
    exact ⟨by first | rfl | (simp; done) | (simp [*]; done), by repeat (first | exact Drawn0.refl _ | apply Drawn0.step)⟩
def topiarylaw12_has.l0 : Nat → ByteArray → Int → Int → Option (Bool)
  | 0, _, _, _ => none
  | k + 1, x0, x1, x5 => if x5 < (x0.size : Int) then (if 0 ≤ x5 then (if (bt x0 x5) = x1 then (some true) else (topiarylaw12_has.l0 k x0 x1 (wrap64 (x5 + 1)))) else (none)) else (some false)
def topiarylaw12_has.f (k : Nat) (a0 : ByteArray) (a1 : Int) : Option (Bool) := topiarylaw12_has.l0 k a0 a1 0
theorem topiarylaw12_has.mono_l : ∀ k, (∀ y0 y1 y2, LeO (topiarylaw12_has.l0 k y0 y1 y2) (topiarylaw12_has.l0 (k + 1) y0 y1 y2))
  | 0 => fun _ _ _ r h => by simp [topiarylaw12_has.l0] at h
  | k + 1 => by
    have ih0 := topiarylaw12_has.mono_l k
    · intro y0 y1 y2
      unfold topiarylaw12_has.l0
      repeat' first
      | (with_reducible exact ih0 _ _ _)
      | (with_reducible exact LeO.refl _)
      | (with_reducible exact LeO.none _)
      | (with_reducible refine LeO.ite ?_ ?_)
      | (with_reducible refine LeO.bind ?_ (fun _ => ?_))
      | exact ih0 _ _ _
      | exact LeO.none _
      | refine LeO.ite ?_ ?_
      | refine LeO.bind ?_ (fun _ => ?_)
theorem topiarylaw12_has.mono : ∀ a0 a1 k, LeO (topiarylaw12_has.f k a0 a1) (topiarylaw12_has.f (k + 1) a0 a1) := by
  intro a0 a1 k
  have ih0 := topiarylaw12_has.mono_l k
  unfold topiarylaw12_has.f
  repeat' first
      | (with_reducible exact ih0 _ _ _)
      | (with_reducible exact LeO.refl _)
      | (with_reducible exact LeO.none _)
      | (with_reducible refine LeO.ite ?_ ?_)
      | (with_reducible refine LeO.bind ?_ (fun _ => ?_))
      | exact ih0 _ _ _
      | exact LeO.none _
      | refine LeO.ite ?_ ?_
      | refine LeO.bind ?_ (fun _ => ?_)
set_option maxHeartbeats 8000000 in
set_option maxRecDepth 100000 in
theorem topiarylaw12_has.calls (k : Nat) (a0 : ByteArray) (a1 : Int) (r : Bool) (w : World) (h : topiarylaw12_has.f k a0 a1 = some r) :
    Calls Try.prog 22 #[.string a0, .int .u8 a1] w fun e w' => e = .returned (.bool r) ∧ Drawn0 w w' := by
  have H : (topiarylaw12_has.l0 k a0 a1 0) = some r := h
  clear h
  have H' := Aside0.mk H
  clear H
  go_enter Try.func22, Try.ntmps22
  go_wp2
  go_loopg [5] k (fun kq v5 w' => ∃ (x5_1 : Int), v5 = .int .i64 x5_1 ∧ Aside0 (topiarylaw12_has.l0 kq a0 a1 x5_1 = some r) ∧ Aside0 (kq ≤ k) ∧ Drawn0 w w')
  case atStart => exact ⟨(0), (by first | rfl | (simp; done) | (simp [*]; done)), H', ⟨Nat.le_refl _⟩, by repeat (first | exact Drawn0.refl _ | apply Drawn0.step)⟩
  case round =>
    clear H'
    try clear c2
    try clear p2
    obtain ⟨x5_1, rfl, HA, HK1, ⟨m1, rfl⟩⟩ := hrel
    cases gk with
    | zero => exact absurd HA.out (by simp [topiarylaw12_has.l0])
    | succ k1 =>
      have H := HA.out
      clear HA
      simp only [topiarylaw12_has.l0] at H
      by_cases c3 : x5_1 < (a0.size : Int)
      · rw [if_pos c3] at H
        have c3b0 : decide (x5_1 < (a0.size : Int)) = true := decide_eq_true c3
        clear c3
        by_cases c4 : 0 ≤ x5_1
        · rw [if_pos c4] at H
          have c4b0 : decide (0 ≤ x5_1) = true := decide_eq_true c4
          clear c4
          by_cases c6 : (bt a0 x5_1) = a1
          · rw [if_pos c6] at H
            have c6b0 : ((bt a0 x5_1) == a1) = true := beq_iff_eq.mpr c6
            have c6b1 : ((bt a0 x5_1) != a1) = false := bne_eq_false_iff_eq.mpr c6
            clear c6
            obtain rfl := Option.some.inj H
            have p5 : 0 ≤ (x5_1 : Int) := of_decide_eq_true (by first | (with_reducible assumption) | assumption)
            have q5 : x5_1 < (a0.size : Int) := of_decide_eq_true (by first | (with_reducible assumption) | assumption)
            have hx5 := bt_at a0 x5_1
            replace p5 := eq_true p5
            replace q5 := eq_true q5
            go_wp2
            go_ret
            exact ⟨by first | rfl | (simp; done) | (simp [*]; done), by repeat (first | exact Drawn0.refl _ | apply Drawn0.step)⟩
          · rw [if_neg c6] at H
            have c6b0 : ((bt a0 x5_1) == a1) = false := beq_eq_false_iff_ne.mpr c6
            have c6b1 : ((bt a0 x5_1) != a1) = true := bne_iff_ne.mpr c6
            have H' := Aside0.mk H
            clear H
            have p5 : 0 ≤ (x5_1 : Int) := of_decide_eq_true (by first | (with_reducible assumption) | assumption)
            have q5 : x5_1 < (a0.size : Int) := of_decide_eq_true (by first | (with_reducible assumption) | assumption)
            have hx5 := bt_at a0 x5_1
            replace p5 := eq_true p5
            replace q5 := eq_true q5
            go_wp2
            go_roundg k1
            case measure => have := HK1.out; omega
            case rel => exact ⟨(wrap64 (x5_1 + 1)), (by first | rfl | (simp; done) | (simp [*]; done)), H', ⟨by have := HK1.out; omega⟩, by repeat (first | exact Drawn0.refl _ | apply Drawn0.step)⟩
        · rw [if_neg c4] at H
          exact absurd H (by simp)
      · rw [if_neg c3] at H
        have c3b0 : decide (x5_1 < (a0.size : Int)) = false := decide_eq_false c3
        clear c3
        obtain rfl := Option.some.inj H
        go_wp2
        go_ret
        exact ⟨by first | rfl | (simp; done) | (simp [*]; done), by repeat (first | exact Drawn0.refl _ | apply Drawn0.step)⟩
end Go.Proofs.Ytjlgenefjebcaaa.Q
end
section
set_option linter.unusedVariables false
set_option linter.unusedSimpArgs false
namespace Go.Proofs.Ytjlgenefjebcaaa.P12
open Go Go.RowKit Go.Proofs.Ytjlgenefjebcaaa Go.Proofs.Ytjlgenefjebcaaa.Q Go.Proofs.YtjlgenefjebcaaaW.PrintWords Go.Proofs.Ytjlgenefjebcaaa.X
theorem awake12 : topiarylaw12_awake.f = some true := by kernel_rfl
theorem short12 (s : ByteArray) (n : Nat) : ∃ t : ByteArray, topiarylaw12_short.f s n = some t ∧ t.size ≤ n ∧ t.data.toList = s.data.toList.take n := by
  unfold topiarylaw12_short.f
  by_cases h : (s.size : Int) > n
  · rw [if_pos h, if_pos (by omega), if_pos (by omega)]
    refine ⟨_, rfl, ?_, ?_⟩
    · rw [Lib.size_eq, Lib.extract_data, List.length_take, List.length_drop]; omega
    · rw [Lib.extract_data]; simp
  · rw [if_neg h]
    exact ⟨s, rfl, by omega, by rw [List.take_of_length_le (by rw [← Lib.size_eq]; omega)]⟩
end Go.Proofs.Ytjlgenefjebcaaa.P12
end
