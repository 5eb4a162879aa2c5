/- Parts of the proof of parserStands_holds, kept and merged by a program of mine (wip/tools/slim.py) out of my texts: Q0 Q5 Q2 Q3 Q4 Q10 -/
import Derived.Test.YtlhhhlimjajnlaaProg
import Derived.Below
import Derived.Deep.Draws
import Derived.Deep.AppendLies
import Derived.Maps.AppendAt
import Derived.OwnWalk
import Derived.Laws.BytesArg
import Derived.Laws.MakeOwn
import Derived.Laws.OwnMore
import Derived.Deep.OwnRows
import Derived.Tactics
import Derived.Lib.ConvBytes
import Derived.Laws.Slices
import Derived.WalkKit
import Derived.KernelRfl
import Derived.RowKit3
import Derived.Deep.LoopGhost
import Derived.Deep.QuietTactic
import Derived.BigQuiet
import Derived.WideLaws
import Derived.Deep.DeepCutAuto
import Derived.Deep.CutBlock
import Derived.Deep.RegionHeld3
import Derived.Laws.Rows
import Derived.Lib.AppendStr
import Derived.ArgAppend
import Derived.Laws.IdiomCopy
import Derived.OrdersHeld
import Derived.Laws.BitsLemmas
import Derived.RowKit
import Derived.WalkMore
import Derived.Laws.StructEq
import Derived.Test.YtlhhhlimjajnlaaSPs1
import Derived.Test.YtlhhhlimjajnlaaSPs2
import Derived.Test.YtlhhhlimjajnlaaSPs3
section
namespace Go.Proofs.Ytlhhhlimjajnlaa.X
end Go.Proofs.Ytlhhhlimjajnlaa.X
namespace Go.Proofs.Ytlhhhlimjajnlaa.Q
open Go.RowKit Go.Proofs.YtlhhhlimjajnlaaW.PrintWords Go.Proofs.YtlhhhlimjajnlaaW.PrintLast Go.Proofs.YtlhhhlimjajnlaaW.PrintMore
attribute [local go_sem] max2_int min2_int max_two min_two max_three min_three max_four min_four   
open Go.Proofs.Ytlhhhlimjajnlaa.X
set_option linter.unusedVariables false
set_option linter.unusedSimpArgs false
def errW : Option Int → Value
  | none => .nilIface
  | some c => .iface 0 (.int .i64 c)
theorem errW_none : errW none = .nilIface := rfl
theorem errW_some (c : Int) : errW (some c) = .iface 0 (.int .i64 c) := rfl
theorem info4 : (Try.prog.info? 4).map (fun i => (i.zero, i.size, i.bytes)) = some (some (.bool false), 1, 1) := by kernel_rfl
theorem info5 : (Try.prog.info? 5).map (fun i => (i.zero, i.size, i.bytes)) = some (some (.int .u8 0), 1, 1) := by kernel_rfl
structure S48 where
  f0 : Int
  f1 : Int
  f2 : Int
  f3 : ByteArray
  f4 : ByteArray
def z48 : S48 := ⟨(0 : Int), (0 : Int), (0 : Int), (⟨#[]⟩ : ByteArray), (⟨#[]⟩ : ByteArray)⟩
def k48 : Kd S48 := Kd.iso (Kd.pair (Kd.int .i64) (Kd.pair (Kd.int .i64) (Kd.pair (Kd.int .i64) (Kd.pair Kd.string Kd.string)))) (fun x : S48 => (x.f0, x.f1, x.f2, x.f3, x.f4))
theorem k48_open {w : World} {x : S48} {cs : List Value} (h : k48.K w x cs) : cs = [.int .i64 x.f0, .int .i64 x.f1, .int .i64 x.f2, .string x.f3, .string x.f4] := by
  obtain ⟨_, _, rfl, rfl, ⟨_, _, rfl, rfl, ⟨_, _, rfl, rfl, ⟨_, _, rfl, rfl, rfl⟩⟩⟩⟩ := h
  exact rfl
theorem k48_mkM (w : World) (base : Nat) (ok : Nat → Prop) (x : S48)  : k48.M w base ok x [.int .i64 x.f0, .int .i64 x.f1, .int .i64 x.f2, .string x.f3, .string x.f4] := ⟨[.int .i64 x.f0], [.int .i64 x.f1, .int .i64 x.f2, .string x.f3, .string x.f4], rfl, rfl, ⟨[.int .i64 x.f1], [.int .i64 x.f2, .string x.f3, .string x.f4], rfl, rfl, ⟨[.int .i64 x.f2], [.string x.f3, .string x.f4], rfl, rfl, ⟨[.string x.f3], [.string x.f4], rfl, rfl, rfl⟩⟩⟩⟩
def rd_T48 (xs : List S48) (i : Int) : S48 := xs.getD i.toNat z48
theorem at_T48 {w : World} {A : Option Addr} {n : Nat} {xs : List S48} (h : Kd.C k48 w A n xs) (i : Int) (h0 : 0 ≤ i) (h1 : i < n) : ∃ ad , A = some ad ∧ w.cell? (ad.add (i.toNat * 5)) = some (.int .i64 (rd_T48 xs i).f0) ∧ w.cell? ⟨(ad.add (i.toNat * 5)).block, (ad.add (i.toNat * 5)).off + 1, none⟩ = some (.int .i64 (rd_T48 xs i).f1) ∧ w.cell? ⟨(ad.add (i.toNat * 5)).block, (ad.add (i.toNat * 5)).off + 2, none⟩ = some (.int .i64 (rd_T48 xs i).f2) ∧ w.cell? ⟨(ad.add (i.toNat * 5)).block, (ad.add (i.toNat * 5)).off + 3, none⟩ = some (.string (rd_T48 xs i).f3) ∧ w.cell? ⟨(ad.add (i.toNat * 5)).block, (ad.add (i.toNat * 5)).off + 4, none⟩ = some (.string (rd_T48 xs i).f4) := by
  obtain ⟨ad, c, e, _, hK, hc0⟩ := Kd.C_get h z48 i h0 h1
  have hc : ∀ j u, c[j]? = some u → w.cell? (ad.add (i.toNat * 5 + j)) = some u := hc0
  obtain rfl := k48_open hK
  exact ⟨ad, e, hc 0 _ rfl, by rw [← add_field _ _ 1 (by omega)]; exact hc 1 _ rfl, by rw [← add_field _ _ 2 (by omega)]; exact hc 2 _ rfl, by rw [← add_field _ _ 3 (by omega)]; exact hc 3 _ rfl, by rw [← add_field _ _ 4 (by omega)]; exact hc 4 _ rfl⟩
structure S33 where
  f0 : Int
  f1 : Int
  f2 : Int
  f3 : ByteArray
def z33 : S33 := ⟨(0 : Int), (0 : Int), (0 : Int), (⟨#[]⟩ : ByteArray)⟩
def k33 : Kd S33 := Kd.iso (Kd.pair (Kd.int .i64) (Kd.pair (Kd.int .i64) (Kd.pair (Kd.int .i64) Kd.string))) (fun x : S33 => (x.f0, x.f1, x.f2, x.f3))
theorem k33_open {w : World} {x : S33} {cs : List Value} (h : k33.K w x cs) : cs = [.int .i64 x.f0, .int .i64 x.f1, .int .i64 x.f2, .string x.f3] := by
  obtain ⟨_, _, rfl, rfl, ⟨_, _, rfl, rfl, ⟨_, _, rfl, rfl, rfl⟩⟩⟩ := h
  exact rfl
theorem k33_mkM (w : World) (base : Nat) (ok : Nat → Prop) (x : S33)  : k33.M w base ok x [.int .i64 x.f0, .int .i64 x.f1, .int .i64 x.f2, .string x.f3] := ⟨[.int .i64 x.f0], [.int .i64 x.f1, .int .i64 x.f2, .string x.f3], rfl, rfl, ⟨[.int .i64 x.f1], [.int .i64 x.f2, .string x.f3], rfl, rfl, ⟨[.int .i64 x.f2], [.string x.f3], rfl, rfl, rfl⟩⟩⟩
def rd_T33 (xs : List S33) (i : Int) : S33 := xs.getD i.toNat z33
theorem at_T33 {w : World} {A : Option Addr} {n : Nat} {xs : List S33} (h : Kd.C k33 w A n xs) (i : Int) (h0 : 0 ≤ i) (h1 : i < n) : ∃ ad , A = some ad ∧ w.cell? (ad.add (i.toNat * 4)) = some (.int .i64 (rd_T33 xs i).f0) ∧ w.cell? ⟨(ad.add (i.toNat * 4)).block, (ad.add (i.toNat * 4)).off + 1, none⟩ = some (.int .i64 (rd_T33 xs i).f1) ∧ w.cell? ⟨(ad.add (i.toNat * 4)).block, (ad.add (i.toNat * 4)).off + 2, none⟩ = some (.int .i64 (rd_T33 xs i).f2) ∧ w.cell? ⟨(ad.add (i.toNat * 4)).block, (ad.add (i.toNat * 4)).off + 3, none⟩ = some (.string (rd_T33 xs i).f3) := by
  obtain ⟨ad, c, e, _, hK, hc0⟩ := Kd.C_get h z33 i h0 h1
  have hc : ∀ j u, c[j]? = some u → w.cell? (ad.add (i.toNat * 4 + j)) = some u := hc0
  obtain rfl := k33_open hK
  exact ⟨ad, e, hc 0 _ rfl, by rw [← add_field _ _ 1 (by omega)]; exact hc 1 _ rfl, by rw [← add_field _ _ 2 (by omega)]; exact hc 2 _ rfl, by rw [← add_field _ _ 3 (by omega)]; exact hc 3 _ rfl⟩
structure S26 where
  f0 : (List ByteArray)
  f1 : (List S33)
def z26 : S26 := ⟨([] : List ByteArray), ([] : List S33)⟩
end Go.Proofs.Ytlhhhlimjajnlaa.Q
end
section
namespace Go.Proofs.Ytlhhhlimjajnlaa.X
end Go.Proofs.Ytlhhhlimjajnlaa.X
namespace Go.Proofs.Ytlhhhlimjajnlaa.Q
open Go.RowKit Go.Proofs.YtlhhhlimjajnlaaW.PrintWords Go.Proofs.YtlhhhlimjajnlaaW.PrintLast Go.Proofs.YtlhhhlimjajnlaaW.PrintMore
attribute [local go_sem] max2_int min2_int max_two min_two max_three min_three max_four min_four   
open Go.Proofs.Ytlhhhlimjajnlaa.X
set_option linter.unusedVariables false
set_option linter.unusedSimpArgs false
def chars_point.f (a0 : Int) : Option (Bool) := if a0 ≥ 0 then (if a0 ≤ 1114111 then (if a0 < 55296 then (some true) else (some (decide (a0 > 57343)))) else (some false)) else (some false)
set_option maxHeartbeats 8000000 in
set_option maxRecDepth 100000 in
theorem chars_point.calls (a0 : Int) (r : Bool) (w : World) (h : chars_point.f a0 = some r) :
    Calls Try.prog 51 #[.int .i64 a0] w fun e w' => e = .returned (.bool r) ∧ Drawn0 w w' := by
  have H : (if a0 ≥ 0 then (if a0 ≤ 1114111 then (if a0 < 55296 then (some true) else (some (decide (a0 > 57343)))) else (some false)) else (some false)) = some r := h
  clear h
  by_cases c2 : a0 ≥ 0
  · rw [if_pos c2] at H
    have c2b0 : decide (0 ≤ a0) = true := decide_eq_true c2
    clear c2
    by_cases c3 : a0 ≤ 1114111
    · rw [if_pos c3] at H
      have c3b0 : decide (a0 ≤ 1114111) = true := decide_eq_true c3
      clear c3
      by_cases c4 : a0 < 55296
      · rw [if_pos c4] at H
        have c4b0 : decide (a0 < 55296) = true := decide_eq_true c4
        clear c4
        obtain rfl := Option.some.inj H
        go_enter Try.func51, Try.ntmps51
        go_wp2
        go_ret
        exact ⟨by first | rfl | (simp; done) | (simp [*]; done), by repeat (first | exact Drawn0.refl _ | apply Drawn0.step)⟩
      · rw [if_neg c4] at H
        have c4b0 : decide (a0 < 55296) = false := decide_eq_false c4
        clear c4
        obtain rfl := Option.some.inj H
        go_enter Try.func51, Try.ntmps51
        go_wp2
        go_ret
        exact ⟨by first | rfl | (simp; done) | (simp [*]; done), by repeat (first | exact Drawn0.refl _ | apply Drawn0.step)⟩
    · rw [if_neg c3] at H
      have c3b0 : decide (a0 ≤ 1114111) = false := decide_eq_false c3
      clear c3
      obtain rfl := Option.some.inj H
      go_enter Try.func51, Try.ntmps51
      go_wp2
      go_ret
      exact ⟨by first | rfl | (simp; done) | (simp [*]; done), by repeat (first | exact Drawn0.refl _ | apply Drawn0.step)⟩
  · rw [if_neg c2] at H
    have c2b0 : decide (0 ≤ a0) = false := decide_eq_false c2
    clear c2
    obtain rfl := Option.some.inj H
    go_enter Try.func51, Try.ntmps51
    go_wp2
    go_ret
    exact ⟨by first | rfl | (simp; done) | (simp [*]; done), by repeat (first | exact Drawn0.refl _ | apply Drawn0.step)⟩
def chars_Allowed.j0 : Nat → Int → Bool → Option (Bool)
  | 0, _, _ => none
  | k + 1, x0, x3 => if x3 = true then (some true) else (if x0 < 32 then (some false) else (if x0 = 65534 then (some false) else (if x0 = 65535 then (some false) else ((chars_point.f x0).bind fun t117 => (some t117)))))
def chars_Allowed.f (k : Nat) (a0 : Int) : Option (Bool) := if a0 = 9 then (chars_Allowed.j0 k a0 true) else (if a0 = 10 then (chars_Allowed.j0 k a0 true) else (chars_Allowed.j0 k a0 (a0 == 13)))
theorem chars_Allowed.mono_l : ∀ k, (∀ y0 y1, LeO (chars_Allowed.j0 k y0 y1) (chars_Allowed.j0 (k + 1) y0 y1))
  | 0 => fun _ _ r h => by simp [chars_Allowed.j0] at h
  | k + 1 => by
    have ih0 := chars_Allowed.mono_l k
    · intro y0 y1
      unfold chars_Allowed.j0
      repeat' first
      | (with_reducible exact ih0 _ _)
      | (with_reducible exact LeO.refl _)
      | (with_reducible exact LeO.none _)
      | (with_reducible refine LeO.ite ?_ ?_)
      | (with_reducible refine LeO.bind ?_ (fun _ => ?_))
      | exact ih0 _ _
      | exact LeO.none _
      | refine LeO.ite ?_ ?_
      | refine LeO.bind ?_ (fun _ => ?_)
theorem chars_Allowed.mono : ∀ a0 k, LeO (chars_Allowed.f k a0) (chars_Allowed.f (k + 1) a0) := by
  intro a0 k
  have ih0 := chars_Allowed.mono_l k
  unfold chars_Allowed.f
  repeat' first
      | (with_reducible exact ih0 _ _)
      | (with_reducible exact LeO.refl _)
      | (with_reducible exact LeO.none _)
      | (with_reducible refine LeO.ite ?_ ?_)
      | (with_reducible refine LeO.bind ?_ (fun _ => ?_))
      | exact ih0 _ _
      | exact LeO.none _
      | refine LeO.ite ?_ ?_
      | refine LeO.bind ?_ (fun _ => ?_)
set_option maxHeartbeats 8000000 in
set_option maxRecDepth 100000 in
theorem chars_Allowed.calls (k : Nat) (a0 : Int) (r : Bool) (w : World) (h : chars_Allowed.f k a0 = some r) :
    Calls Try.prog 34 #[.int .i64 a0] w fun e w' => e = .returned (.bool r) ∧ Drawn0 w w' := by
  have H : (if a0 = 9 then (chars_Allowed.j0 k a0 true) else (if a0 = 10 then (chars_Allowed.j0 k a0 true) else (chars_Allowed.j0 k a0 (a0 == 13)))) = some r := h
  clear h
  have HC2 := Aside0.mk H
  clear H
  go_enter Try.func34, Try.ntmps34
  go_upto_region 1 with (fail)
  go_cut [3] (fun v3 wc => ∃ (kq : Nat) (x3_1 : Bool), v3 = .bool x3_1 ∧ Aside0 (chars_Allowed.j0 kq a0 x3_1 = some r) ∧ Aside0 (kq ≤ k) ∧ Drawn0 w wc)
  case first =>
    have H := HC2.out
    clear HC2
    by_cases c3 : a0 = 9
    · rw [if_pos c3] at H
      have c3b0 : (a0 == 9) = true := beq_iff_eq.mpr c3
      have c3b1 : (a0 != 9) = false := bne_eq_false_iff_eq.mpr c3
      clear c3
      (first | rw [c3b0] | (simp only [i64_w, i32_w]; rw [c3b0]) | skip)
      have H' := Aside0.mk H
      clear H
      go_wp2
      go_meet
      case rel => exact ⟨_, (true), (by first | rfl | (simp; done) | (simp [*]; done)), H', ⟨by first | omega | exact Nat.le_refl _⟩, by repeat (first | exact Drawn0.refl _ | apply Drawn0.step)⟩
    · rw [if_neg c3] at H
      have c3b0 : (a0 == 9) = false := beq_eq_false_iff_ne.mpr c3
      have c3b1 : (a0 != 9) = true := bne_iff_ne.mpr c3
      (first | rw [c3b0] | (simp only [i64_w, i32_w]; rw [c3b0]) | skip)
      by_cases c4 : a0 = 10
      · rw [if_pos c4] at H
        have c4b0 : (a0 == 10) = true := beq_iff_eq.mpr c4
        have c4b1 : (a0 != 10) = false := bne_eq_false_iff_eq.mpr c4
        clear c4
        have H' := Aside0.mk H
        clear H
        go_wp2
        go_meet
        case rel => exact ⟨_, (true), (by first | rfl | (simp; done) | (simp [*]; done)), H', ⟨by first | omega | exact Nat.le_refl _⟩, by repeat (first | exact Drawn0.refl _ | apply Drawn0.step)⟩
      · rw [if_neg c4] at H
        have c4b0 : (a0 == 10) = false := beq_eq_false_iff_ne.mpr c4
        have c4b1 : (a0 != 10) = true := bne_iff_ne.mpr c4
        have H' := Aside0.mk H
        clear H
        go_wp2
        go_meet
        case rel => exact ⟨_, ((a0 == 13)), (by first | rfl | (simp; done) | (simp [*]; done)), H', ⟨by first | omega | exact Nat.le_refl _⟩, by repeat (first | exact Drawn0.refl _ | apply Drawn0.step)⟩
  case rest =>
    clear HC2
    try clear p2
    try clear c3
    try clear c3b0
    try clear c3b1
    try clear c4
    try clear c4b0
    try clear c4b1
    obtain ⟨kq, x3_1, rfl, HA, HJ1, ⟨mc1, rfl⟩⟩ := hcut
    cases kq with
    | zero => exact absurd HA.out (by simp [chars_Allowed.j0])
    | succ kj1 =>
      have H := HA.out
      clear HA
      simp only [chars_Allowed.j0] at H
      by_cases c5 : x3_1 = true
      · subst c5
        have H1 : (some true) = some r := by rw [if_pos rfl] at H; exact H
        clear H
        have H := H1
        clear H1
        obtain rfl := Option.some.inj H
        go_wp2
        go_ret
        exact ⟨by first | rfl | (simp; done) | (simp [*]; done), by repeat (first | exact Drawn0.refl _ | apply Drawn0.step)⟩
      · replace c5 := Bool.eq_false_iff.mpr c5
        subst c5
        have H1 : (if a0 < 32 then (some false) else (if a0 = 65534 then (some false) else (if a0 = 65535 then (some false) else ((chars_point.f a0).bind fun t117 => (some t117))))) = some r := by rw [if_neg (show ¬ (false = true) by decide)] at H; exact H
        clear H
        have H := H1
        clear H1
        by_cases c6 : a0 < 32
        · rw [if_pos c6] at H
          have c6b0 : decide (a0 < 32) = true := decide_eq_true c6
          clear c6
          obtain rfl := Option.some.inj H
          go_wp2
          go_ret
          exact ⟨by first | rfl | (simp; done) | (simp [*]; done), by repeat (first | exact Drawn0.refl _ | apply Drawn0.step)⟩
        · rw [if_neg c6] at H
          have c6b0 : decide (a0 < 32) = false := decide_eq_false c6
          clear c6
          by_cases c7 : a0 = 65534
          · rw [if_pos c7] at H
            have c7b0 : (a0 == 65534) = true := beq_iff_eq.mpr c7
            have c7b1 : (a0 != 65534) = false := bne_eq_false_iff_eq.mpr c7
            clear c7
            obtain rfl := Option.some.inj H
            go_wp2
            go_ret
            exact ⟨by first | rfl | (simp; done) | (simp [*]; done), by repeat (first | exact Drawn0.refl _ | apply Drawn0.step)⟩
          · rw [if_neg c7] at H
            have c7b0 : (a0 == 65534) = false := beq_eq_false_iff_ne.mpr c7
            have c7b1 : (a0 != 65534) = true := bne_iff_ne.mpr c7
            by_cases c8 : a0 = 65535
            · rw [if_pos c8] at H
              have c8b0 : (a0 == 65535) = true := beq_iff_eq.mpr c8
              have c8b1 : (a0 != 65535) = false := bne_eq_false_iff_eq.mpr c8
              clear c8
              obtain rfl := Option.some.inj H
              go_wp2
              go_ret
              exact ⟨by first | rfl | (simp; done) | (simp [*]; done), by repeat (first | exact Drawn0.refl _ | apply Drawn0.step)⟩
            · rw [if_neg c8] at H
              have c8b0 : (a0 == 65535) = false := beq_eq_false_iff_ne.mpr c8
              have c8b1 : (a0 != 65535) = true := bne_iff_ne.mpr c8
              replace H := Option.bind_eq_some_iff.mp H
              obtain ⟨t117, A90, H⟩ := H
              replace H : (some t117) = some r := H
              have A9 := Aside0.mk A90
              clear A90
              obtain rfl := Option.some.inj H
              go_wp2_with (first | ((with_reducible refine gate_callee (f := 51) rfl ?_); refine goesL_ (some 26) rfl rfl Try.func51 (by kernel_rfl) rfl #[.int .i64 a0] rfl (by (try simp only [List.map_toArray, List.map_cons, List.map_nil]); first | done | rfl | (simp only [List.length_drop, List.length_take]; rfl)) ?_; (with_reducible refine (chars_point.calls a0 t117 _ A9.out).mono ?_); rintro e w' ⟨rfl, ⟨nd, rfl⟩⟩; refine ⟨_, rfl, ?_⟩))
              go_ret
              exact ⟨by first | rfl | (simp; done) | (simp [*]; done), by repeat (first | exact Drawn0.refl _ | apply Drawn0.step)⟩
end Go.Proofs.Ytlhhhlimjajnlaa.Q
end
section
namespace Go.Proofs.Ytlhhhlimjajnlaa.X
end Go.Proofs.Ytlhhhlimjajnlaa.X
namespace Go.Proofs.Ytlhhhlimjajnlaa.Q
open Go.RowKit Go.Proofs.YtlhhhlimjajnlaaW.PrintWords Go.Proofs.YtlhhhlimjajnlaaW.PrintLast Go.Proofs.YtlhhhlimjajnlaaW.PrintMore
attribute [local go_sem] max2_int min2_int max_two min_two max_three min_three max_four min_four   
open Go.Proofs.Ytlhhhlimjajnlaa.X
set_option linter.unusedVariables false
set_option linter.unusedSimpArgs false
def chars_named.f (a0 : ByteArray) : Option (ByteArray) := if a0.toList = ([108, 116] : List UInt8) then (some (⟨#[60]⟩ : ByteArray)) else (if a0.toList = ([103, 116] : List UInt8) then (some (⟨#[62]⟩ : ByteArray)) else (if a0.toList = ([97, 109, 112] : List UInt8) then (some (⟨#[38]⟩ : ByteArray)) else (if a0.toList = ([113, 117, 111, 116] : List UInt8) then (some (⟨#[34]⟩ : ByteArray)) else (if a0.toList = ([97, 112, 111, 115] : List UInt8) then (some (⟨#[39]⟩ : ByteArray)) else (some (⟨#[]⟩ : ByteArray))))))
set_option maxHeartbeats 8000000 in
set_option maxRecDepth 100000 in
theorem chars_named.calls (a0 : ByteArray) (r : ByteArray) (w : World) (h : chars_named.f a0 = some r) :
    Calls Try.prog 90 #[.string a0] w fun e w' => e = .returned (.string r) ∧ Drawn0 w w' := by
  have H : (if a0.toList = ([108, 116] : List UInt8) then (some (⟨#[60]⟩ : ByteArray)) else (if a0.toList = ([103, 116] : List UInt8) then (some (⟨#[62]⟩ : ByteArray)) else (if a0.toList = ([97, 109, 112] : List UInt8) then (some (⟨#[38]⟩ : ByteArray)) else (if a0.toList = ([113, 117, 111, 116] : List UInt8) then (some (⟨#[34]⟩ : ByteArray)) else (if a0.toList = ([97, 112, 111, 115] : List UInt8) then (some (⟨#[39]⟩ : ByteArray)) else (some (⟨#[]⟩ : ByteArray))))))) = some r := h
  clear h
  by_cases c2 : a0.toList = ([108, 116] : List UInt8)
  · rw [if_pos c2] at H
    have c2b0 : (a0.toList == ([108, 116] : List UInt8)) = true := beq_iff_eq.mpr c2
    have c2b1 : (a0.toList != ([108, 116] : List UInt8)) = false := bne_eq_false_iff_eq.mpr c2
    clear c2
    obtain rfl := Option.some.inj H
    go_enter Try.func90, Try.ntmps90
    go_wp2
    go_ret
    exact ⟨by first | rfl | (simp; done) | (simp [*]; done), by repeat (first | exact Drawn0.refl _ | apply Drawn0.step)⟩
  · rw [if_neg c2] at H
    have c2b0 : (a0.toList == ([108, 116] : List UInt8)) = false := beq_eq_false_iff_ne.mpr c2
    have c2b1 : (a0.toList != ([108, 116] : List UInt8)) = true := bne_iff_ne.mpr c2
    by_cases c3 : a0.toList = ([103, 116] : List UInt8)
    · rw [if_pos c3] at H
      have c3b0 : (a0.toList == ([103, 116] : List UInt8)) = true := beq_iff_eq.mpr c3
      have c3b1 : (a0.toList != ([103, 116] : List UInt8)) = false := bne_eq_false_iff_eq.mpr c3
      clear c3
      obtain rfl := Option.some.inj H
      go_enter Try.func90, Try.ntmps90
      go_wp2
      go_ret
      exact ⟨by first | rfl | (simp; done) | (simp [*]; done), by repeat (first | exact Drawn0.refl _ | apply Drawn0.step)⟩
    · rw [if_neg c3] at H
      have c3b0 : (a0.toList == ([103, 116] : List UInt8)) = false := beq_eq_false_iff_ne.mpr c3
      have c3b1 : (a0.toList != ([103, 116] : List UInt8)) = true := bne_iff_ne.mpr c3
      by_cases c4 : a0.toList = ([97, 109, 112] : List UInt8)
      · rw [if_pos c4] at H
        have c4b0 : (a0.toList == ([97, 109, 112] : List UInt8)) = true := beq_iff_eq.mpr c4
        have c4b1 : (a0.toList != ([97, 109, 112] : List UInt8)) = false := bne_eq_false_iff_eq.mpr c4
        clear c4
        obtain rfl := Option.some.inj H
        go_enter Try.func90, Try.ntmps90
        go_wp2
        go_ret
        exact ⟨by first | rfl | (simp; done) | (simp [*]; done), by repeat (first | exact Drawn0.refl _ | apply Drawn0.step)⟩
      · rw [if_neg c4] at H
        have c4b0 : (a0.toList == ([97, 109, 112] : List UInt8)) = false := beq_eq_false_iff_ne.mpr c4
        have c4b1 : (a0.toList != ([97, 109, 112] : List UInt8)) = true := bne_iff_ne.mpr c4
        by_cases c5 : a0.toList = ([113, 117, 111, 116] : List UInt8)
        · rw [if_pos c5] at H
          have c5b0 : (a0.toList == ([113, 117, 111, 116] : List UInt8)) = true := beq_iff_eq.mpr c5
          have c5b1 : (a0.toList != ([113, 117, 111, 116] : List UInt8)) = false := bne_eq_false_iff_eq.mpr c5
          clear c5
          obtain rfl := Option.some.inj H
          go_enter Try.func90, Try.ntmps90
          go_wp2
          go_ret
          exact ⟨by first | rfl | (simp; done) | (simp [*]; done), by repeat (first | exact Drawn0.refl _ | apply Drawn0.step)⟩
        · rw [if_neg c5] at H
          have c5b0 : (a0.toList == ([113, 117, 111, 116] : List UInt8)) = false := beq_eq_false_iff_ne.mpr c5
          have c5b1 : (a0.toList != ([113, 117, 111, 116] : List UInt8)) = true := bne_iff_ne.mpr c5
          by_cases c6 : a0.toList = ([97, 112, 111, 115] : List UInt8)
          · rw [if_pos c6] at H
            have c6b0 : (a0.toList == ([97, 112, 111, 115] : List UInt8)) = true := beq_iff_eq.mpr c6
            have c6b1 : (a0.toList != ([97, 112, 111, 115] : List UInt8)) = false := bne_eq_false_iff_eq.mpr c6
            clear c6
            obtain rfl := Option.some.inj H
            go_enter Try.func90, Try.ntmps90
            go_wp2
            go_ret
            exact ⟨by first | rfl | (simp; done) | (simp [*]; done), by repeat (first | exact Drawn0.refl _ | apply Drawn0.step)⟩
          · rw [if_neg c6] at H
            have c6b0 : (a0.toList == ([97, 112, 111, 115] : List UInt8)) = false := beq_eq_false_iff_ne.mpr c6
            have c6b1 : (a0.toList != ([97, 112, 111, 115] : List UInt8)) = true := bne_iff_ne.mpr c6
            obtain rfl := Option.some.inj H
            go_enter Try.func90, Try.ntmps90
            go_wp2
            go_ret
            exact ⟨by first | rfl | (simp; done) | (simp [*]; done), by repeat (first | exact Drawn0.refl _ | apply Drawn0.step)⟩
end Go.Proofs.Ytlhhhlimjajnlaa.Q
end
section
namespace Go.Proofs.Ytlhhhlimjajnlaa.X
end Go.Proofs.Ytlhhhlimjajnlaa.X
namespace Go.Proofs.Ytlhhhlimjajnlaa.Q
open Go.RowKit Go.Proofs.YtlhhhlimjajnlaaW.PrintWords Go.Proofs.YtlhhhlimjajnlaaW.PrintLast Go.Proofs.YtlhhhlimjajnlaaW.PrintMore
attribute [local go_sem] max2_int min2_int max_two min_two max_three min_three max_four min_four   
open Go.Proofs.Ytlhhhlimjajnlaa.X
set_option linter.unusedVariables false
set_option linter.unusedSimpArgs false
def stringslite_HasPrefix.f (a0 : ByteArray) (a1 : ByteArray) : Option (Bool) := if (a0.size : Int) ≥ (a1.size : Int) then (if 0 ≤ (a1.size : Int) then (if (a1.size : Int) ≤ (a0.size : Int) then (some ((a0.extract 0 ((a1.size : Int) : Int).toNat).toList == a1.toList)) else (none)) else (none)) else (some false)
set_option maxHeartbeats 8000000 in
set_option maxRecDepth 100000 in
theorem stringslite_HasPrefix.calls (a0 : ByteArray) (a1 : ByteArray) (r : Bool) (w : World) (h : stringslite_HasPrefix.f a0 a1 = some r) :
    Calls Try.prog 66 #[.string a0, .string a1] w fun e w' => e = .returned (.bool r) ∧ Drawn0 w w' := by
  have H : (if (a0.size : Int) ≥ (a1.size : Int) then (if 0 ≤ (a1.size : Int) then (if (a1.size : Int) ≤ (a0.size : Int) then (some ((a0.extract 0 ((a1.size : Int) : Int).toNat).toList == a1.toList)) else (none)) else (none)) else (some false)) = some r := h
  clear h
  by_cases c3 : (a0.size : Int) ≥ (a1.size : Int)
  · rw [if_pos c3] at H
    have c3b0 : decide ((a1.size : Int) ≤ (a0.size : Int)) = true := decide_eq_true c3
    have c3b1 : decide (a1.size ≤ a0.size) = true := decide_eq_true (Int.ofNat_le.mp c3)
    clear c3
    by_cases c4 : 0 ≤ (a1.size : Int)
    · rw [if_pos c4] at H
      have c4b0 := eq_true c4
      have c4b1 : decide (0 ≤ (a1.size : Int)) = true := decide_eq_true c4
      clear c4
      by_cases c5 : (a1.size : Int) ≤ (a0.size : Int)
      · rw [if_pos c5] at H
        have c5b0 := eq_true c5
        have c5b1 : decide ((a1.size : Int) ≤ (a0.size : Int)) = true := decide_eq_true c5
        clear c5
        obtain rfl := Option.some.inj H
        go_enter Try.func66, Try.ntmps66
        go_wp2
        go_ret
        exact ⟨by first | rfl | (simp; done) | (simp [*]; done), by repeat (first | exact Drawn0.refl _ | apply Drawn0.step)⟩
      · rw [if_neg c5] at H
        exact absurd H (by simp)
    · rw [if_neg c4] at H
      exact absurd H (by simp)
  · rw [if_neg c3] at H
    have c3b0 : decide ((a1.size : Int) ≤ (a0.size : Int)) = false := decide_eq_false c3
    have c3b1 : decide (a1.size ≤ a0.size) = false := decide_eq_false (fun h => c3 (Int.ofNat_le.mpr h))
    clear c3
    obtain rfl := Option.some.inj H
    go_enter Try.func66, Try.ntmps66
    go_wp2
    go_ret
    exact ⟨by first | rfl | (simp; done) | (simp [*]; done), by repeat (first | exact Drawn0.refl _ | apply Drawn0.step)⟩
def stringslite_CutPrefix.f (a0 : ByteArray) (a1 : ByteArray) : Option (ByteArray × Bool) := (stringslite_HasPrefix.f a0 a1).bind fun t114 => (if t114 = true then (if 0 ≤ (a1.size : Int) then (if (a1.size : Int) ≤ (a0.size : Int) then (some (a0.extract ((a1.size : Int) : Int).toNat a0.size, true)) else (none)) else (none)) else (some (a0, false)))
set_option maxHeartbeats 8000000 in
set_option maxRecDepth 100000 in
theorem stringslite_CutPrefix.calls (a0 : ByteArray) (a1 : ByteArray) (r1 : ByteArray) (r2 : Bool) (w : World) (h : stringslite_CutPrefix.f a0 a1 = some (r1, r2)) :
    Calls Try.prog 102 #[.string a0, .string a1] w fun e w' => e = .returned (.tuple #[.string r1, .bool r2]) ∧ Drawn0 w w' := by
  have H : ((stringslite_HasPrefix.f a0 a1).bind fun t114 => (if t114 = true then (if 0 ≤ (a1.size : Int) then (if (a1.size : Int) ≤ (a0.size : Int) then (some (a0.extract ((a1.size : Int) : Int).toNat a0.size, true)) else (none)) else (none)) else (some (a0, false)))) = some (r1, r2) := h
  clear h
  replace H := Option.bind_eq_some_iff.mp H
  obtain ⟨t114, A30, H⟩ := H
  replace H : (if t114 = true then (if 0 ≤ (a1.size : Int) then (if (a1.size : Int) ≤ (a0.size : Int) then (some (a0.extract ((a1.size : Int) : Int).toNat a0.size, true)) else (none)) else (none)) else (some (a0, false))) = some (r1, r2) := H
  have A3 := Aside0.mk A30
  clear A30
  by_cases c4 : t114 = true
  · subst c4
    have H1 : (if 0 ≤ (a1.size : Int) then (if (a1.size : Int) ≤ (a0.size : Int) then (some (a0.extract ((a1.size : Int) : Int).toNat a0.size, true)) else (none)) else (none)) = some (r1, r2) := by rw [if_pos rfl] at H; exact H
    clear H
    have H := H1
    clear H1
    by_cases c5 : 0 ≤ (a1.size : Int)
    · rw [if_pos c5] at H
      have c5b0 := eq_true c5
      have c5b1 : decide (0 ≤ (a1.size : Int)) = true := decide_eq_true c5
      clear c5
      by_cases c6 : (a1.size : Int) ≤ (a0.size : Int)
      · rw [if_pos c6] at H
        have c6b0 := eq_true c6
        have c6b1 : decide ((a1.size : Int) ≤ (a0.size : Int)) = true := decide_eq_true c6
        clear c6
        simp only [Option.some.injEq, Prod.mk.injEq] at H
        obtain ⟨rfl, rfl⟩ := H
        go_enter Try.func102, Try.ntmps102
        go_wp2_with (first | ((with_reducible refine gate_callee (f := 66) rfl ?_); refine goesL_ (some 8) rfl rfl Try.func66 (by kernel_rfl) rfl #[.string a0, .string a1] rfl (by (try simp only [List.map_toArray, List.map_cons, List.map_nil]); first | done | rfl | (simp only [List.length_drop, List.length_take]; rfl)) ?_; (with_reducible refine (stringslite_HasPrefix.calls a0 a1 true _ A3.out).mono ?_); rintro e w' ⟨rfl, ⟨nd, rfl⟩⟩; refine ⟨_, rfl, ?_⟩))
        go_ret2
        exact ⟨by first | rfl | (simp; done) | (simp [*]; done), by repeat (first | exact Drawn0.refl _ | apply Drawn0.step)⟩
      · rw [if_neg c6] at H
        exact absurd H (by simp)
    · rw [if_neg c5] at H
      exact absurd H (by simp)
  · replace c4 := Bool.eq_false_iff.mpr c4
    subst c4
    have H1 : (some (a0, false)) = some (r1, r2) := by rw [if_neg (show ¬ (false = true) by decide)] at H; exact H
    clear H
    have H := H1
    clear H1
    simp only [Option.some.injEq, Prod.mk.injEq] at H
    obtain ⟨rfl, rfl⟩ := H
    go_enter Try.func102, Try.ntmps102
    go_wp2_with (first | ((with_reducible refine gate_callee (f := 66) rfl ?_); refine goesL_ (some 8) rfl rfl Try.func66 (by kernel_rfl) rfl #[.string a0, .string a1] rfl (by (try simp only [List.map_toArray, List.map_cons, List.map_nil]); first | done | rfl | (simp only [List.length_drop, List.length_take]; rfl)) ?_; (with_reducible refine (stringslite_HasPrefix.calls a0 a1 false _ A3.out).mono ?_); rintro e w' ⟨rfl, ⟨nd, rfl⟩⟩; refine ⟨_, rfl, ?_⟩))
    go_ret2
    exact ⟨by first | rfl | (simp; done) | (simp [*]; done), by repeat (first | exact Drawn0.refl _ | apply Drawn0.step)⟩
end Go.Proofs.Ytlhhhlimjajnlaa.Q
end
section
namespace Go.Proofs.Ytlhhhlimjajnlaa.X
end Go.Proofs.Ytlhhhlimjajnlaa.X
namespace Go.Proofs.Ytlhhhlimjajnlaa.Q
open Go.RowKit Go.Proofs.YtlhhhlimjajnlaaW.PrintWords Go.Proofs.YtlhhhlimjajnlaaW.PrintLast Go.Proofs.YtlhhhlimjajnlaaW.PrintMore
attribute [local go_sem] max2_int min2_int max_two min_two max_three min_three max_four min_four   
open Go.Proofs.Ytlhhhlimjajnlaa.X
set_option linter.unusedVariables false
set_option linter.unusedSimpArgs false
def strings_CutPrefix.f (a0 : ByteArray) (a1 : ByteArray) : Option (ByteArray × Bool) := (stringslite_CutPrefix.f a0 a1).bind fun bt115 => (some (bt115.1, bt115.2))
set_option maxHeartbeats 8000000 in
set_option maxRecDepth 100000 in
theorem strings_CutPrefix.calls (a0 : ByteArray) (a1 : ByteArray) (r1 : ByteArray) (r2 : Bool) (w : World) (h : strings_CutPrefix.f a0 a1 = some (r1, r2)) :
    Calls Try.prog 91 #[.string a0, .string a1] w fun e w' => e = .returned (.tuple #[.string r1, .bool r2]) ∧ Drawn0 w w' := by
  have H : ((stringslite_CutPrefix.f a0 a1).bind fun bt115 => (some (bt115.1, bt115.2))) = some (r1, r2) := h
  clear h
  replace H := Option.bind_eq_some_iff.mp H
  obtain ⟨⟨t115, t116⟩, A30, H⟩ := H
  replace H : (some (t115, t116)) = some (r1, r2) := H
  have A3 := Aside0.mk A30
  clear A30
  simp only [Option.some.injEq, Prod.mk.injEq] at H
  obtain ⟨rfl, rfl⟩ := H
  go_enter Try.func91, Try.ntmps91
  go_wp2_with (first | ((with_reducible refine gate_callee (f := 102) rfl ?_); refine goesL_ (some 8) rfl rfl Try.func102 (by kernel_rfl) rfl #[.string a0, .string a1] rfl (by (try simp only [List.map_toArray, List.map_cons, List.map_nil]); first | done | rfl | (simp only [List.length_drop, List.length_take]; rfl)) ?_; (with_reducible refine (stringslite_CutPrefix.calls a0 a1 t115 t116 _ A3.out).mono ?_); rintro e w' ⟨rfl, ⟨nd, rfl⟩⟩; refine ⟨_, rfl, ?_⟩))
  go_ret2
  exact ⟨by first | rfl | (simp; done) | (simp [*]; done), by repeat (first | exact Drawn0.refl _ | apply Drawn0.step)⟩
end Go.Proofs.Ytlhhhlimjajnlaa.Q
end
section
namespace Go.Proofs.Ytlhhhlimjajnlaa.X
end Go.Proofs.Ytlhhhlimjajnlaa.X
namespace Go.Proofs.Ytlhhhlimjajnlaa.Q
open Go.RowKit Go.Proofs.YtlhhhlimjajnlaaW.PrintWords Go.Proofs.YtlhhhlimjajnlaaW.PrintLast Go.Proofs.YtlhhhlimjajnlaaW.PrintMore
attribute [local go_sem] max2_int min2_int max_two min_two max_three min_three max_four min_four   
open Go.Proofs.Ytlhhhlimjajnlaa.X
set_option linter.unusedVariables false
set_option linter.unusedSimpArgs false
mutual
def topiaryref11_NameEnd.l0 : Nat → ByteArray → Int → Int → Option (Int)
  | 0, _, _, _ => none
  | k + 1, x0, x1, x5 => if x5 ≥ 0 then (topiaryref11_NameEnd.j1 k x0 x1 x5 (decide (x5 < (x0.size : Int)))) else (topiaryref11_NameEnd.j1 k x0 x1 x5 false)
def topiaryref11_NameEnd.j1 : Nat → ByteArray → Int → Int → Bool → Option (Int)
  | 0, _, _, _, _ => none
  | k + 1, x0, x1, x5, x17 => if x17 = true then (if 0 ≤ x5 then (if x5 < (x0.size : Int) then (if (bt x0 x5) ≥ 97 then (if (bt x0 x5) ≤ 122 then (if (bt x0 x5) ≥ 48 then (if (bt x0 x5) ≤ 57 then (topiaryref11_NameEnd.l0 k x0 x1 (wrap64 (x5 + 1))) else (if (bt x0 x5) = 45 then (topiaryref11_NameEnd.l0 k x0 x1 (wrap64 (x5 + 1))) else (topiaryref11_NameEnd.l0 k x0 x1 (wrap64 (x5 + 1))))) else (if (bt x0 x5) = 45 then (topiaryref11_NameEnd.l0 k x0 x1 (wrap64 (x5 + 1))) else (topiaryref11_NameEnd.l0 k x0 x1 (wrap64 (x5 + 1))))) else (if (bt x0 x5) ≥ 65 then (if (bt x0 x5) ≤ 90 then (if (bt x0 x5) ≥ 48 then (if (bt x0 x5) ≤ 57 then (topiaryref11_NameEnd.l0 k x0 x1 (wrap64 (x5 + 1))) else (if (bt x0 x5) = 45 then (topiaryref11_NameEnd.l0 k x0 x1 (wrap64 (x5 + 1))) else (topiaryref11_NameEnd.l0 k x0 x1 (wrap64 (x5 + 1))))) else (if (bt x0 x5) = 45 then (topiaryref11_NameEnd.l0 k x0 x1 (wrap64 (x5 + 1))) else (topiaryref11_NameEnd.l0 k x0 x1 (wrap64 (x5 + 1))))) else (if (bt x0 x5) ≥ 48 then (if (bt x0 x5) ≤ 57 then (if ((bt x0 x5) = 95) then (topiaryref11_NameEnd.l0 k x0 x1 (wrap64 (x5 + 1))) else (if x5 = x1 then (some x5) else (topiaryref11_NameEnd.l0 k x0 x1 (wrap64 (x5 + 1))))) else (if (bt x0 x5) = 45 then (if ((bt x0 x5) = 95) then (topiaryref11_NameEnd.l0 k x0 x1 (wrap64 (x5 + 1))) else (if x5 = x1 then (some x5) else (topiaryref11_NameEnd.l0 k x0 x1 (wrap64 (x5 + 1))))) else (if ((bt x0 x5) = 95) then (topiaryref11_NameEnd.l0 k x0 x1 (wrap64 (x5 + 1))) else (if ((bt x0 x5) = 46) then (if x5 = x1 then (some x5) else (topiaryref11_NameEnd.l0 k x0 x1 (wrap64 (x5 + 1)))) else (some x5))))) else (if (bt x0 x5) = 45 then (if ((bt x0 x5) = 95) then (topiaryref11_NameEnd.l0 k x0 x1 (wrap64 (x5 + 1))) else (if x5 = x1 then (some x5) else (topiaryref11_NameEnd.l0 k x0 x1 (wrap64 (x5 + 1))))) else (if ((bt x0 x5) = 95) then (topiaryref11_NameEnd.l0 k x0 x1 (wrap64 (x5 + 1))) else (if ((bt x0 x5) = 46) then (if x5 = x1 then (some x5) else (topiaryref11_NameEnd.l0 k x0 x1 (wrap64 (x5 + 1)))) else (some x5)))))) else (if (bt x0 x5) ≥ 48 then (if (bt x0 x5) ≤ 57 then (if ((bt x0 x5) = 95) then (topiaryref11_NameEnd.l0 k x0 x1 (wrap64 (x5 + 1))) else (if x5 = x1 then (some x5) else (topiaryref11_NameEnd.l0 k x0 x1 (wrap64 (x5 + 1))))) else (if (bt x0 x5) = 45 then (if ((bt x0 x5) = 95) then (topiaryref11_NameEnd.l0 k x0 x1 (wrap64 (x5 + 1))) else (if x5 = x1 then (some x5) else (topiaryref11_NameEnd.l0 k x0 x1 (wrap64 (x5 + 1))))) else (if ((bt x0 x5) = 95) then (topiaryref11_NameEnd.l0 k x0 x1 (wrap64 (x5 + 1))) else (if ((bt x0 x5) = 46) then (if x5 = x1 then (some x5) else (topiaryref11_NameEnd.l0 k x0 x1 (wrap64 (x5 + 1)))) else (some x5))))) else (if (bt x0 x5) = 45 then (if ((bt x0 x5) = 95) then (topiaryref11_NameEnd.l0 k x0 x1 (wrap64 (x5 + 1))) else (if x5 = x1 then (some x5) else (topiaryref11_NameEnd.l0 k x0 x1 (wrap64 (x5 + 1))))) else (if ((bt x0 x5) = 95) then (topiaryref11_NameEnd.l0 k x0 x1 (wrap64 (x5 + 1))) else (if ((bt x0 x5) = 46) then (if x5 = x1 then (some x5) else (topiaryref11_NameEnd.l0 k x0 x1 (wrap64 (x5 + 1)))) else (some x5))))))) else (if (bt x0 x5) ≥ 65 then (if (bt x0 x5) ≤ 90 then (if (bt x0 x5) ≥ 48 then (if (bt x0 x5) ≤ 57 then (topiaryref11_NameEnd.l0 k x0 x1 (wrap64 (x5 + 1))) else (if (bt x0 x5) = 45 then (topiaryref11_NameEnd.l0 k x0 x1 (wrap64 (x5 + 1))) else (topiaryref11_NameEnd.l0 k x0 x1 (wrap64 (x5 + 1))))) else (if (bt x0 x5) = 45 then (topiaryref11_NameEnd.l0 k x0 x1 (wrap64 (x5 + 1))) else (topiaryref11_NameEnd.l0 k x0 x1 (wrap64 (x5 + 1))))) else (if (bt x0 x5) ≥ 48 then (if (bt x0 x5) ≤ 57 then (if ((bt x0 x5) = 95) then (topiaryref11_NameEnd.l0 k x0 x1 (wrap64 (x5 + 1))) else (if x5 = x1 then (some x5) else (topiaryref11_NameEnd.l0 k x0 x1 (wrap64 (x5 + 1))))) else (if (bt x0 x5) = 45 then (if ((bt x0 x5) = 95) then (topiaryref11_NameEnd.l0 k x0 x1 (wrap64 (x5 + 1))) else (if x5 = x1 then (some x5) else (topiaryref11_NameEnd.l0 k x0 x1 (wrap64 (x5 + 1))))) else (if ((bt x0 x5) = 95) then (topiaryref11_NameEnd.l0 k x0 x1 (wrap64 (x5 + 1))) else (if ((bt x0 x5) = 46) then (if x5 = x1 then (some x5) else (topiaryref11_NameEnd.l0 k x0 x1 (wrap64 (x5 + 1)))) else (some x5))))) else (if (bt x0 x5) = 45 then (if ((bt x0 x5) = 95) then (topiaryref11_NameEnd.l0 k x0 x1 (wrap64 (x5 + 1))) else (if x5 = x1 then (some x5) else (topiaryref11_NameEnd.l0 k x0 x1 (wrap64 (x5 + 1))))) else (if ((bt x0 x5) = 95) then (topiaryref11_NameEnd.l0 k x0 x1 (wrap64 (x5 + 1))) else (if ((bt x0 x5) = 46) then (if x5 = x1 then (some x5) else (topiaryref11_NameEnd.l0 k x0 x1 (wrap64 (x5 + 1)))) else (some x5)))))) else (if (bt x0 x5) ≥ 48 then (if (bt x0 x5) ≤ 57 then (if ((bt x0 x5) = 95) then (topiaryref11_NameEnd.l0 k x0 x1 (wrap64 (x5 + 1))) else (if x5 = x1 then (some x5) else (topiaryref11_NameEnd.l0 k x0 x1 (wrap64 (x5 + 1))))) else (if (bt x0 x5) = 45 then (if ((bt x0 x5) = 95) then (topiaryref11_NameEnd.l0 k x0 x1 (wrap64 (x5 + 1))) else (if x5 = x1 then (some x5) else (topiaryref11_NameEnd.l0 k x0 x1 (wrap64 (x5 + 1))))) else (if ((bt x0 x5) = 95) then (topiaryref11_NameEnd.l0 k x0 x1 (wrap64 (x5 + 1))) else (if ((bt x0 x5) = 46) then (if x5 = x1 then (some x5) else (topiaryref11_NameEnd.l0 k x0 x1 (wrap64 (x5 + 1)))) else (some x5))))) else (if (bt x0 x5) = 45 then (if ((bt x0 x5) = 95) then (topiaryref11_NameEnd.l0 k x0 x1 (wrap64 (x5 + 1))) else (if x5 = x1 then (some x5) else (topiaryref11_NameEnd.l0 k x0 x1 (wrap64 (x5 + 1))))) else (if ((bt x0 x5) = 95) then (topiaryref11_NameEnd.l0 k x0 x1 (wrap64 (x5 + 1))) else (if ((bt x0 x5) = 46) then (if x5 = x1 then (some x5) else (topiaryref11_NameEnd.l0 k x0 x1 (wrap64 (x5 + 1)))) else (some x5))))))) else (none)) else (none)) else (some x5)
end
def topiaryref11_NameEnd.f (k : Nat) (a0 : ByteArray) (a1 : Int) : Option (Int) := topiaryref11_NameEnd.l0 k a0 a1 a1
theorem topiaryref11_NameEnd.mono_l : ∀ k, (∀ y0 y1 y2, LeO (topiaryref11_NameEnd.l0 k y0 y1 y2) (topiaryref11_NameEnd.l0 (k + 1) y0 y1 y2)) ∧ (∀ y0 y1 y2 y3, LeO (topiaryref11_NameEnd.j1 k y0 y1 y2 y3) (topiaryref11_NameEnd.j1 (k + 1) y0 y1 y2 y3))
  | 0 => ⟨fun _ _ _ r h => by simp [topiaryref11_NameEnd.l0] at h, fun _ _ _ _ r h => by simp [topiaryref11_NameEnd.j1] at h⟩
  | k + 1 => by
    obtain ⟨ih0, ih1⟩ := topiaryref11_NameEnd.mono_l k
    refine ⟨?_, ?_⟩
    · intro y0 y1 y2
      unfold topiaryref11_NameEnd.l0
      repeat' first
      | (with_reducible exact ih0 _ _ _)
      | (with_reducible exact ih1 _ _ _ _)
      | (with_reducible exact LeO.refl _)
      | (with_reducible exact LeO.none _)
      | (with_reducible refine LeO.ite ?_ ?_)
      | (with_reducible refine LeO.bind ?_ (fun _ => ?_))
      | exact ih0 _ _ _
      | exact ih1 _ _ _ _
      | exact LeO.none _
      | refine LeO.ite ?_ ?_
      | refine LeO.bind ?_ (fun _ => ?_)
    · intro y0 y1 y2 y3
      unfold topiaryref11_NameEnd.j1
      repeat' first
      | (with_reducible exact ih0 _ _ _)
      | (with_reducible exact ih1 _ _ _ _)
      | (with_reducible exact LeO.refl _)
      | (with_reducible exact LeO.none _)
      | (with_reducible refine LeO.ite ?_ ?_)
      | (with_reducible refine LeO.bind ?_ (fun _ => ?_))
      | exact ih0 _ _ _
      | exact ih1 _ _ _ _
      | exact LeO.none _
      | refine LeO.ite ?_ ?_
      | refine LeO.bind ?_ (fun _ => ?_)
theorem topiaryref11_NameEnd.mono : ∀ a0 a1 k, LeO (topiaryref11_NameEnd.f k a0 a1) (topiaryref11_NameEnd.f (k + 1) a0 a1) := by
  intro a0 a1 k
  obtain ⟨ih0, ih1⟩ := topiaryref11_NameEnd.mono_l k
  unfold topiaryref11_NameEnd.f
  repeat' first
      | (with_reducible exact ih0 _ _ _)
      | (with_reducible exact ih1 _ _ _ _)
      | (with_reducible exact LeO.refl _)
      | (with_reducible exact LeO.none _)
      | (with_reducible refine LeO.ite ?_ ?_)
      | (with_reducible refine LeO.bind ?_ (fun _ => ?_))
      | exact ih0 _ _ _
      | exact ih1 _ _ _ _
      | exact LeO.none _
      | refine LeO.ite ?_ ?_
      | refine LeO.bind ?_ (fun _ => ?_)
set_option maxHeartbeats 8000000 in
set_option maxRecDepth 100000 in
theorem topiaryref11_NameEnd.calls (k : Nat) (a0 : ByteArray) (a1 : Int) (r : Int) (w : World) (h : topiaryref11_NameEnd.f k a0 a1 = some r) :
    Calls Try.prog 10 #[.string a0, .int .i64 a1] w fun e w' => e = .returned (.int .i64 r) ∧ Drawn0 w w' := by
  have H : (topiaryref11_NameEnd.l0 k a0 a1 a1) = some r := h
  clear h
  have H' := Aside0.mk H
  clear H
  go_enter Try.func10, Try.ntmps10
  go_wp2
  go_loopg [5] k (fun kq v5 w' => ∃ (x5_1 : Int), v5 = .int .i64 x5_1 ∧ Aside0 (topiaryref11_NameEnd.l0 kq a0 a1 x5_1 = some r) ∧ Aside0 (kq ≤ k) ∧ Drawn0 w w')
  case atStart => exact ⟨(a1), (by first | rfl | (simp; done) | (simp [*]; done)), H', ⟨Nat.le_refl _⟩, by repeat (first | exact Drawn0.refl _ | apply Drawn0.step)⟩
  case round =>
    clear H'
    try clear c1
    try clear p2
    obtain ⟨x5_1, rfl, HA, HK1, ⟨m1, rfl⟩⟩ := hrel
    cases gk with
    | zero => exact absurd HA.out (by simp [topiaryref11_NameEnd.l0])
    | succ k1 =>
      have H := HA.out
      clear HA
      simp only [topiaryref11_NameEnd.l0] at H
      have HC3 := Aside0.mk H
      clear H
      go_upto_region 2 with (fail)
      go_cut [17] (fun v17 wc => ∃ (kq : Nat) (x17_2 : Bool), v17 = .bool x17_2 ∧ Aside0 (topiaryref11_NameEnd.j1 kq a0 a1 x5_1 x17_2 = some r) ∧ Aside0 (kq ≤ k1) ∧ Drawn0 w wc)
      case first =>
        have H := HC3.out
        clear HC3
        by_cases c4 : x5_1 ≥ 0
        · rw [if_pos c4] at H
          have c4b0 : decide (0 ≤ x5_1) = true := decide_eq_true c4
          clear c4
          (first | rw [c4b0] | (simp only [i64_w, i32_w]; rw [c4b0]) | skip)
          have H' := Aside0.mk H
          clear H
          go_wp2
          go_meet
          case rel => exact ⟨_, (decide (x5_1 < (a0.size : Int))), (by first | rfl | (simp; done) | (simp [*]; done)), H', ⟨by have := HK1.out; first | omega | exact Nat.le_refl _⟩, by repeat (first | exact Drawn0.refl _ | apply Drawn0.step)⟩
        · rw [if_neg c4] at H
          have c4b0 : decide (0 ≤ x5_1) = false := decide_eq_false c4
          clear c4
          (first | rw [c4b0] | (simp only [i64_w, i32_w]; rw [c4b0]) | skip)
          have H' := Aside0.mk H
          clear H
          go_wp2
          go_meet
          case rel => exact ⟨_, (false), (by first | rfl | (simp; done) | (simp [*]; done)), H', ⟨by have := HK1.out; first | omega | exact Nat.le_refl _⟩, by repeat (first | exact Drawn0.refl _ | apply Drawn0.step)⟩
      case rest =>
        clear HC3
        try clear c1
        try clear p2
        try clear c4
        try clear c4b0
        try clear p2
        obtain ⟨kq, x17_2, rfl, HA, HJ2, ⟨mc2, rfl⟩⟩ := hcut
        cases kq with
        | zero => exact absurd HA.out (by simp [topiaryref11_NameEnd.j1])
        | succ kj2 =>
          have H := HA.out
          clear HA
          simp only [topiaryref11_NameEnd.j1] at H
          by_cases c5 : x17_2 = true
          · subst c5
            have H1 : (if 0 ≤ x5_1 then (if x5_1 < (a0.size : Int) then (if (bt a0 x5_1) ≥ 97 then (if (bt a0 x5_1) ≤ 122 then (if (bt a0 x5_1) ≥ 48 then (if (bt a0 x5_1) ≤ 57 then (topiaryref11_NameEnd.l0 kj2 a0 a1 (wrap64 (x5_1 + 1))) else (if (bt a0 x5_1) = 45 then (topiaryref11_NameEnd.l0 kj2 a0 a1 (wrap64 (x5_1 + 1))) else (topiaryref11_NameEnd.l0 kj2 a0 a1 (wrap64 (x5_1 + 1))))) else (if (bt a0 x5_1) = 45 then (topiaryref11_NameEnd.l0 kj2 a0 a1 (wrap64 (x5_1 + 1))) else (topiaryref11_NameEnd.l0 kj2 a0 a1 (wrap64 (x5_1 + 1))))) else (if (bt a0 x5_1) ≥ 65 then (if (bt a0 x5_1) ≤ 90 then (if (bt a0 x5_1) ≥ 48 then (if (bt a0 x5_1) ≤ 57 then (topiaryref11_NameEnd.l0 kj2 a0 a1 (wrap64 (x5_1 + 1))) else (if (bt a0 x5_1) = 45 then (topiaryref11_NameEnd.l0 kj2 a0 a1 (wrap64 (x5_1 + 1))) else (topiaryref11_NameEnd.l0 kj2 a0 a1 (wrap64 (x5_1 + 1))))) else (if (bt a0 x5_1) = 45 then (topiaryref11_NameEnd.l0 kj2 a0 a1 (wrap64 (x5_1 + 1))) else (topiaryref11_NameEnd.l0 kj2 a0 a1 (wrap64 (x5_1 + 1))))) else (if (bt a0 x5_1) ≥ 48 then (if (bt a0 x5_1) ≤ 57 then (if ((bt a0 x5_1) = 95) then (topiaryref11_NameEnd.l0 kj2 a0 a1 (wrap64 (x5_1 + 1))) else (if x5_1 = a1 then (some x5_1) else (topiaryref11_NameEnd.l0 kj2 a0 a1 (wrap64 (x5_1 + 1))))) else (if (bt a0 x5_1) = 45 then (if ((bt a0 x5_1) = 95) then (topiaryref11_NameEnd.l0 kj2 a0 a1 (wrap64 (x5_1 + 1))) else (if x5_1 = a1 then (some x5_1) else (topiaryref11_NameEnd.l0 kj2 a0 a1 (wrap64 (x5_1 + 1))))) else (if ((bt a0 x5_1) = 95) then (topiaryref11_NameEnd.l0 kj2 a0 a1 (wrap64 (x5_1 + 1))) else (if ((bt a0 x5_1) = 46) then (if x5_1 = a1 then (some x5_1) else (topiaryref11_NameEnd.l0 kj2 a0 a1 (wrap64 (x5_1 + 1)))) else (some x5_1))))) else (if (bt a0 x5_1) = 45 then (if ((bt a0 x5_1) = 95) then (topiaryref11_NameEnd.l0 kj2 a0 a1 (wrap64 (x5_1 + 1))) else (if x5_1 = a1 then (some x5_1) else (topiaryref11_NameEnd.l0 kj2 a0 a1 (wrap64 (x5_1 + 1))))) else (if ((bt a0 x5_1) = 95) then (topiaryref11_NameEnd.l0 kj2 a0 a1 (wrap64 (x5_1 + 1))) else (if ((bt a0 x5_1) = 46) then (if x5_1 = a1 then (some x5_1) else (topiaryref11_NameEnd.l0 kj2 a0 a1 (wrap64 (x5_1 + 1)))) else (some x5_1)))))) else (if (bt a0 x5_1) ≥ 48 then (if (bt a0 x5_1) ≤ 57 then (if ((bt a0 x5_1) = 95) then (topiaryref11_NameEnd.l0 kj2 a0 a1 (wrap64 (x5_1 + 1))) else (if x5_1 = a1 then (some x5_1) else (topiaryref11_NameEnd.l0 kj2 a0 a1 (wrap64 (x5_1 + 1))))) else (if (bt a0 x5_1) = 45 then (if ((bt a0 x5_1) = 95) then (topiaryref11_NameEnd.l0 kj2 a0 a1 (wrap64 (x5_1 + 1))) else (if x5_1 = a1 then (some x5_1) else (topiaryref11_NameEnd.l0 kj2 a0 a1 (wrap64 (x5_1 + 1))))) else (if ((bt a0 x5_1) = 95) then (topiaryref11_NameEnd.l0 kj2 a0 a1 (wrap64 (x5_1 + 1))) else (if ((bt a0 x5_1) = 46) then (if x5_1 = a1 then (some x5_1) else (topiaryref11_NameEnd.l0 kj2 a0 a1 (wrap64 (x5_1 + 1)))) else (some x5_1))))) else (if (bt a0 x5_1) = 45 then (if ((bt a0 x5_1) = 95) then (topiaryref11_NameEnd.l0 kj2 a0 a1 (wrap64 (x5_1 + 1))) else (if x5_1 = a1 then (some x5_1) else (topiaryref11_NameEnd.l0 kj2 a0 a1 (wrap64 (x5_1 + 1))))) else (if ((bt a0 x5_1) = 95) then (topiaryref11_NameEnd.l0 kj2 a0 a1 (wrap64 (x5_1 + 1))) else (if ((bt a0 x5_1) = 46) then (if x5_1 = a1 then (some x5_1) else (topiaryref11_NameEnd.l0 kj2 a0 a1 (wrap64 (x5_1 + 1)))) else (some x5_1))))))) else (if (bt a0 x5_1) ≥ 65 then (if (bt a0 x5_1) ≤ 90 then (if (bt a0 x5_1) ≥ 48 then (if (bt a0 x5_1) ≤ 57 then (topiaryref11_NameEnd.l0 kj2 a0 a1 (wrap64 (x5_1 + 1))) else (if (bt a0 x5_1) = 45 then (topiaryref11_NameEnd.l0 kj2 a0 a1 (wrap64 (x5_1 + 1))) else (topiaryref11_NameEnd.l0 kj2 a0 a1 (wrap64 (x5_1 + 1))))) else (if (bt a0 x5_1) = 45 then (topiaryref11_NameEnd.l0 kj2 a0 a1 (wrap64 (x5_1 + 1))) else (topiaryref11_NameEnd.l0 kj2 a0 a1 (wrap64 (x5_1 + 1))))) else (if (bt a0 x5_1) ≥ 48 then (if (bt a0 x5_1) ≤ 57 then (if ((bt a0 x5_1) = 95) then (topiaryref11_NameEnd.l0 kj2 a0 a1 (wrap64 (x5_1 + 1))) else (if x5_1 = a1 then (some x5_1) else (topiaryref11_NameEnd.l0 kj2 a0 a1 (wrap64 (x5_1 + 1))))) else (if (bt a0 x5_1) = 45 then (if ((bt a0 x5_1) = 95) then (topiaryref11_NameEnd.l0 kj2 a0 a1 (wrap64 (x5_1 + 1))) else (if x5_1 = a1 then (some x5_1) else (topiaryref11_NameEnd.l0 kj2 a0 a1 (wrap64 (x5_1 + 1))))) else (if ((bt a0 x5_1) = 95) then (topiaryref11_NameEnd.l0 kj2 a0 a1 (wrap64 (x5_1 + 1))) else (if ((bt a0 x5_1) = 46) then (if x5_1 = a1 then (some x5_1) else (topiaryref11_NameEnd.l0 kj2 a0 a1 (wrap64 (x5_1 + 1)))) else (some x5_1))))) else (if (bt a0 x5_1) = 45 then (if ((bt a0 x5_1) = 95) then (topiaryref11_NameEnd.l0 kj2 a0 a1 (wrap64 (x5_1 + 1))) else (if x5_1 = a1 then (some x5_1) else (topiaryref11_NameEnd.l0 kj2 a0 a1 (wrap64 (x5_1 + 1))))) else (if ((bt a0 x5_1) = 95) then (topiaryref11_NameEnd.l0 kj2 a0 a1 (wrap64 (x5_1 + 1))) else (if ((bt a0 x5_1) = 46) then (if x5_1 = a1 then (some x5_1) else (topiaryref11_NameEnd.l0 kj2 a0 a1 (wrap64 (x5_1 + 1)))) else (some x5_1)))))) else (if (bt a0 x5_1) ≥ 48 then (if (bt a0 x5_1) ≤ 57 then (if ((bt a0 x5_1) = 95) then (topiaryref11_NameEnd.l0 kj2 a0 a1 (wrap64 (x5_1 + 1))) else (if x5_1 = a1 then (some x5_1) else (topiaryref11_NameEnd.l0 kj2 a0 a1 (wrap64 (x5_1 + 1))))) else (if (bt a0 x5_1) = 45 then (if ((bt a0 x5_1) = 95) then (topiaryref11_NameEnd.l0 kj2 a0 a1 (wrap64 (x5_1 + 1))) else (if x5_1 = a1 then (some x5_1) else (topiaryref11_NameEnd.l0 kj2 a0 a1 (wrap64 (x5_1 + 1))))) else (if ((bt a0 x5_1) = 95) then (topiaryref11_NameEnd.l0 kj2 a0 a1 (wrap64 (x5_1 + 1))) else (if ((bt a0 x5_1) = 46) then (if x5_1 = a1 then (some x5_1) else (topiaryref11_NameEnd.l0 kj2 a0 a1 (wrap64 (x5_1 + 1)))) else (some x5_1))))) else (if (bt a0 x5_1) = 45 then (if ((bt a0 x5_1) = 95) then (topiaryref11_NameEnd.l0 kj2 a0 a1 (wrap64 (x5_1 + 1))) else (if x5_1 = a1 then (some x5_1) else (topiaryref11_NameEnd.l0 kj2 a0 a1 (wrap64 (x5_1 + 1))))) else (if ((bt a0 x5_1) = 95) then (topiaryref11_NameEnd.l0 kj2 a0 a1 (wrap64 (x5_1 + 1))) else (if ((bt a0 x5_1) = 46) then (if x5_1 = a1 then (some x5_1) else (topiaryref11_NameEnd.l0 kj2 a0 a1 (wrap64 (x5_1 + 1)))) else (some x5_1))))))) else (none)) else (none)) = some r := by rw [if_pos rfl] at H; exact H
            clear H
            have H := H1
            clear H1
            by_cases c6 : 0 ≤ x5_1
            · rw [if_pos c6] at H
              have c6b0 : decide (0 ≤ x5_1) = true := decide_eq_true c6
              clear c6
              by_cases c7 : x5_1 < (a0.size : Int)
              · rw [if_pos c7] at H
                have c7b0 : decide (x5_1 < (a0.size : Int)) = true := decide_eq_true c7
                clear c7
                by_cases c9 : (bt a0 x5_1) ≥ 97
                · rw [if_pos c9] at H
                  have c9b0 : decide (97 ≤ (bt a0 x5_1)) = true := decide_eq_true c9
                  clear c9
                  by_cases c10 : (bt a0 x5_1) ≤ 122
                  · rw [if_pos c10] at H
                    have c10b0 : decide ((bt a0 x5_1) ≤ 122) = true := decide_eq_true c10
                    clear c10
                    by_cases c11 : (bt a0 x5_1) ≥ 48
                    · rw [if_pos c11] at H
                      have c11b0 : decide (48 ≤ (bt a0 x5_1)) = true := decide_eq_true c11
                      clear c11
                      by_cases c12 : (bt a0 x5_1) ≤ 57
                      · rw [if_pos c12] at H
                        have c12b0 : decide ((bt a0 x5_1) ≤ 57) = true := decide_eq_true c12
                        clear c12
                        have H' := Aside0.mk H
                        clear H
                        have p8 : 0 ≤ (x5_1 : Int) := of_decide_eq_true (by first | (with_reducible assumption) | assumption)
                        have q8 : x5_1 < (a0.size : Int) := of_decide_eq_true (by first | (with_reducible assumption) | assumption)
                        have hx8 := bt_at a0 x5_1
                        replace p8 := eq_true p8
                        replace q8 := eq_true q8
                        go_wp2
                        go_roundg kj2
                        case measure => have := HK1.out; have := HJ2.out; omega
                        case rel => exact ⟨(wrap64 (x5_1 + 1)), (by first | rfl | (simp; done) | (simp [*]; done)), H', ⟨by have := HK1.out; have := HJ2.out; omega⟩, by repeat (first | exact Drawn0.refl _ | apply Drawn0.step)⟩
                      · rw [if_neg c12] at H
                        have c12b0 : decide ((bt a0 x5_1) ≤ 57) = false := decide_eq_false c12
                        clear c12
                        by_cases c13 : (bt a0 x5_1) = 45
                        · rw [if_pos c13] at H
                          have c13b0 : ((bt a0 x5_1) == 45) = true := beq_iff_eq.mpr c13
                          have c13b1 : ((bt a0 x5_1) != 45) = false := bne_eq_false_iff_eq.mpr c13
                          clear c13
                          have H' := Aside0.mk H
                          clear H
                          have p8 : 0 ≤ (x5_1 : Int) := of_decide_eq_true (by first | (with_reducible assumption) | assumption)
                          have q8 : x5_1 < (a0.size : Int) := of_decide_eq_true (by first | (with_reducible assumption) | assumption)
                          have hx8 := bt_at a0 x5_1
                          replace p8 := eq_true p8
                          replace q8 := eq_true q8
                          go_wp2
                          go_roundg kj2
                          case measure => have := HK1.out; have := HJ2.out; omega
                          case rel => exact ⟨(wrap64 (x5_1 + 1)), (by first | rfl | (simp; done) | (simp [*]; done)), H', ⟨by have := HK1.out; have := HJ2.out; omega⟩, by repeat (first | exact Drawn0.refl _ | apply Drawn0.step)⟩
                        · rw [if_neg c13] at H
                          have c13b0 : ((bt a0 x5_1) == 45) = false := beq_eq_false_iff_ne.mpr c13
                          have c13b1 : ((bt a0 x5_1) != 45) = true := bne_iff_ne.mpr c13
                          have H' := Aside0.mk H
                          clear H
                          have p8 : 0 ≤ (x5_1 : Int) := of_decide_eq_true (by first | (with_reducible assumption) | assumption)
                          have q8 : x5_1 < (a0.size : Int) := of_decide_eq_true (by first | (with_reducible assumption) | assumption)
                          have hx8 := bt_at a0 x5_1
                          replace p8 := eq_true p8
                          replace q8 := eq_true q8
                          go_wp2
                          go_roundg kj2
                          case measure => have := HK1.out; have := HJ2.out; omega
                          case rel => exact ⟨(wrap64 (x5_1 + 1)), (by first | rfl | (simp; done) | (simp [*]; done)), H', ⟨by have := HK1.out; have := HJ2.out; omega⟩, by repeat (first | exact Drawn0.refl _ | apply Drawn0.step)⟩
                    · rw [if_neg c11] at H
                      have c11b0 : decide (48 ≤ (bt a0 x5_1)) = false := decide_eq_false c11
                      clear c11
                      by_cases c14 : (bt a0 x5_1) = 45
                      · rw [if_pos c14] at H
                        have c14b0 : ((bt a0 x5_1) == 45) = true := beq_iff_eq.mpr c14
                        have c14b1 : ((bt a0 x5_1) != 45) = false := bne_eq_false_iff_eq.mpr c14
                        clear c14
                        have H' := Aside0.mk H
                        clear H
                        have p8 : 0 ≤ (x5_1 : Int) := of_decide_eq_true (by first | (with_reducible assumption) | assumption)
                        have q8 : x5_1 < (a0.size : Int) := of_decide_eq_true (by first | (with_reducible assumption) | assumption)
                        have hx8 := bt_at a0 x5_1
                        replace p8 := eq_true p8
                        replace q8 := eq_true q8
                        go_wp2
                        go_roundg kj2
                        case measure => have := HK1.out; have := HJ2.out; omega
                        case rel => exact ⟨(wrap64 (x5_1 + 1)), (by first | rfl | (simp; done) | (simp [*]; done)), H', ⟨by have := HK1.out; have := HJ2.out; omega⟩, by repeat (first | exact Drawn0.refl _ | apply Drawn0.step)⟩
                      · rw [if_neg c14] at H
                        have c14b0 : ((bt a0 x5_1) == 45) = false := beq_eq_false_iff_ne.mpr c14
                        have c14b1 : ((bt a0 x5_1) != 45) = true := bne_iff_ne.mpr c14
                        have H' := Aside0.mk H
                        clear H
                        have p8 : 0 ≤ (x5_1 : Int) := of_decide_eq_true (by first | (with_reducible assumption) | assumption)
                        have q8 : x5_1 < (a0.size : Int) := of_decide_eq_true (by first | (with_reducible assumption) | assumption)
                        have hx8 := bt_at a0 x5_1
                        replace p8 := eq_true p8
                        replace q8 := eq_true q8
                        go_wp2
                        go_roundg kj2
                        case measure => have := HK1.out; have := HJ2.out; omega
                        case rel => exact ⟨(wrap64 (x5_1 + 1)), (by first | rfl | (simp; done) | (simp [*]; done)), H', ⟨by have := HK1.out; have := HJ2.out; omega⟩, by repeat (first | exact Drawn0.refl _ | apply Drawn0.step)⟩
                  · rw [if_neg c10] at H
                    have c10b0 : decide ((bt a0 x5_1) ≤ 122) = false := decide_eq_false c10
                    clear c10
                    by_cases c15 : (bt a0 x5_1) ≥ 65
                    · rw [if_pos c15] at H
                      have c15b0 : decide (65 ≤ (bt a0 x5_1)) = true := decide_eq_true c15
                      clear c15
                      by_cases c16 : (bt a0 x5_1) ≤ 90
                      · rw [if_pos c16] at H
                        have c16b0 : decide ((bt a0 x5_1) ≤ 90) = true := decide_eq_true c16
                        clear c16
                        by_cases c17 : (bt a0 x5_1) ≥ 48
                        · rw [if_pos c17] at H
                          have c17b0 : decide (48 ≤ (bt a0 x5_1)) = true := decide_eq_true c17
                          clear c17
                          by_cases c18 : (bt a0 x5_1) ≤ 57
                          · rw [if_pos c18] at H
                            have c18b0 : decide ((bt a0 x5_1) ≤ 57) = true := decide_eq_true c18
                            clear c18
                            have H' := Aside0.mk H
                            clear H
                            have p8 : 0 ≤ (x5_1 : Int) := of_decide_eq_true (by first | (with_reducible assumption) | assumption)
                            have q8 : x5_1 < (a0.size : Int) := of_decide_eq_true (by first | (with_reducible assumption) | assumption)
                            have hx8 := bt_at a0 x5_1
                            replace p8 := eq_true p8
                            replace q8 := eq_true q8
                            go_wp2
                            go_roundg kj2
                            case measure => have := HK1.out; have := HJ2.out; omega
                            case rel => exact ⟨(wrap64 (x5_1 + 1)), (by first | rfl | (simp; done) | (simp [*]; done)), H', ⟨by have := HK1.out; have := HJ2.out; omega⟩, by repeat (first | exact Drawn0.refl _ | apply Drawn0.step)⟩
                          · rw [if_neg c18] at H
                            have c18b0 : decide ((bt a0 x5_1) ≤ 57) = false := decide_eq_false c18
                            clear c18
                            by_cases c19 : (bt a0 x5_1) = 45
                            · rw [if_pos c19] at H
                              have c19b0 : ((bt a0 x5_1) == 45) = true := beq_iff_eq.mpr c19
                              have c19b1 : ((bt a0 x5_1) != 45) = false := bne_eq_false_iff_eq.mpr c19
                              clear c19
                              have H' := Aside0.mk H
                              clear H
                              have p8 : 0 ≤ (x5_1 : Int) := of_decide_eq_true (by first | (with_reducible assumption) | assumption)
                              have q8 : x5_1 < (a0.size : Int) := of_decide_eq_true (by first | (with_reducible assumption) | assumption)
                              have hx8 := bt_at a0 x5_1
                              replace p8 := eq_true p8
                              replace q8 := eq_true q8
                              go_wp2
                              go_roundg kj2
                              case measure => have := HK1.out; have := HJ2.out; omega
                              case rel => exact ⟨(wrap64 (x5_1 + 1)), (by first | rfl | (simp; done) | (simp [*]; done)), H', ⟨by have := HK1.out; have := HJ2.out; omega⟩, by repeat (first | exact Drawn0.refl _ | apply Drawn0.step)⟩
                            · rw [if_neg c19] at H
                              have c19b0 : ((bt a0 x5_1) == 45) = false := beq_eq_false_iff_ne.mpr c19
                              have c19b1 : ((bt a0 x5_1) != 45) = true := bne_iff_ne.mpr c19
                              have H' := Aside0.mk H
                              clear H
                              have p8 : 0 ≤ (x5_1 : Int) := of_decide_eq_true (by first | (with_reducible assumption) | assumption)
                              have q8 : x5_1 < (a0.size : Int) := of_decide_eq_true (by first | (with_reducible assumption) | assumption)
                              have hx8 := bt_at a0 x5_1
                              replace p8 := eq_true p8
                              replace q8 := eq_true q8
                              go_wp2
                              go_roundg kj2
                              case measure => have := HK1.out; have := HJ2.out; omega
                              case rel => exact ⟨(wrap64 (x5_1 + 1)), (by first | rfl | (simp; done) | (simp [*]; done)), H', ⟨by have := HK1.out; have := HJ2.out; omega⟩, by repeat (first | exact Drawn0.refl _ | apply Drawn0.step)⟩
                        · rw [if_neg c17] at H
                          have c17b0 : decide (48 ≤ (bt a0 x5_1)) = false := decide_eq_false c17
                          clear c17
                          by_cases c20 : (bt a0 x5_1) = 45
                          · rw [if_pos c20] at H
                            have c20b0 : ((bt a0 x5_1) == 45) = true := beq_iff_eq.mpr c20
                            have c20b1 : ((bt a0 x5_1) != 45) = false := bne_eq_false_iff_eq.mpr c20
                            clear c20
                            have H' := Aside0.mk H
                            clear H
                            have p8 : 0 ≤ (x5_1 : Int) := of_decide_eq_true (by first | (with_reducible assumption) | assumption)
                            have q8 : x5_1 < (a0.size : Int) := of_decide_eq_true (by first | (with_reducible assumption) | assumption)
                            have hx8 := bt_at a0 x5_1
                            replace p8 := eq_true p8
                            replace q8 := eq_true q8
                            go_wp2
                            go_roundg kj2
                            case measure => have := HK1.out; have := HJ2.out; omega
                            case rel => exact ⟨(wrap64 (x5_1 + 1)), (by first | rfl | (simp; done) | (simp [*]; done)), H', ⟨by have := HK1.out; have := HJ2.out; omega⟩, by repeat (first | exact Drawn0.refl _ | apply Drawn0.step)⟩
                          · rw [if_neg c20] at H
                            have c20b0 : ((bt a0 x5_1) == 45) = false := beq_eq_false_iff_ne.mpr c20
                            have c20b1 : ((bt a0 x5_1) != 45) = true := bne_iff_ne.mpr c20
                            have H' := Aside0.mk H
                            clear H
                            have p8 : 0 ≤ (x5_1 : Int) := of_decide_eq_true (by first | (with_reducible assumption) | assumption)
                            have q8 : x5_1 < (a0.size : Int) := of_decide_eq_true (by first | (with_reducible assumption) | assumption)
                            have hx8 := bt_at a0 x5_1
                            replace p8 := eq_true p8
                            replace q8 := eq_true q8
                            go_wp2
                            go_roundg kj2
                            case measure => have := HK1.out; have := HJ2.out; omega
                            case rel => exact ⟨(wrap64 (x5_1 + 1)), (by first | rfl | (simp; done) | (simp [*]; done)), H', ⟨by have := HK1.out; have := HJ2.out; omega⟩, by repeat (first | exact Drawn0.refl _ | apply Drawn0.step)⟩
                      · rw [if_neg c16] at H
                        have c16b0 : decide ((bt a0 x5_1) ≤ 90) = false := decide_eq_false c16
                        clear c16
                        by_cases c21 : (bt a0 x5_1) ≥ 48
                        · rw [if_pos c21] at H
                          have c21b0 : decide (48 ≤ (bt a0 x5_1)) = true := decide_eq_true c21
                          clear c21
                          by_cases c22 : (bt a0 x5_1) ≤ 57
                          · rw [if_pos c22] at H
                            have c22b0 : decide ((bt a0 x5_1) ≤ 57) = true := decide_eq_true c22
                            clear c22
                            by_cases c23 : ((bt a0 x5_1) = 95)
                            · rw [if_pos c23] at H
                              have c23b0 : ((bt a0 x5_1) == 95) = true := beq_iff_eq.mpr c23
                              have c23b1 : ((bt a0 x5_1) != 95) = false := bne_eq_false_iff_eq.mpr c23
                              clear c23
                              have H' := Aside0.mk H
                              clear H
                              have p8 : 0 ≤ (x5_1 : Int) := of_decide_eq_true (by first | (with_reducible assumption) | assumption)
                              have q8 : x5_1 < (a0.size : Int) := of_decide_eq_true (by first | (with_reducible assumption) | assumption)
                              have hx8 := bt_at a0 x5_1
                              replace p8 := eq_true p8
                              replace q8 := eq_true q8
                              go_wp2
                              go_roundg kj2
                              case measure => have := HK1.out; have := HJ2.out; omega
                              case rel => exact ⟨(wrap64 (x5_1 + 1)), (by first | rfl | (simp; done) | (simp [*]; done)), H', ⟨by have := HK1.out; have := HJ2.out; omega⟩, by repeat (first | exact Drawn0.refl _ | apply Drawn0.step)⟩
                            · rw [if_neg c23] at H
                              have c23b0 : ((bt a0 x5_1) == 95) = false := beq_eq_false_iff_ne.mpr c23
                              have c23b1 : ((bt a0 x5_1) != 95) = true := bne_iff_ne.mpr c23
                              by_cases c24 : x5_1 = a1
                              · rw [if_pos c24] at H
                                have c24b0 : (x5_1 == a1) = true := beq_iff_eq.mpr c24
                                have c24b1 : (x5_1 != a1) = false := bne_eq_false_iff_eq.mpr c24
                                clear c24
                                obtain rfl := Option.some.inj H
                                have p8 : 0 ≤ (x5_1 : Int) := of_decide_eq_true (by first | (with_reducible assumption) | assumption)
                                have q8 : x5_1 < (a0.size : Int) := of_decide_eq_true (by first | (with_reducible assumption) | assumption)
                                have hx8 := bt_at a0 x5_1
                                replace p8 := eq_true p8
                                replace q8 := eq_true q8
                                go_wp2
                                go_ret
                                exact ⟨by first | rfl | (simp; done) | (simp [*]; done), by repeat (first | exact Drawn0.refl _ | apply Drawn0.step)⟩
                              · rw [if_neg c24] at H
                                have c24b0 : (x5_1 == a1) = false := beq_eq_false_iff_ne.mpr c24
                                have c24b1 : (x5_1 != a1) = true := bne_iff_ne.mpr c24
                                have H' := Aside0.mk H
                                clear H
                                have p8 : 0 ≤ (x5_1 : Int) := of_decide_eq_true (by first | (with_reducible assumption) | assumption)
                                have q8 : x5_1 < (a0.size : Int) := of_decide_eq_true (by first | (with_reducible assumption) | assumption)
                                have hx8 := bt_at a0 x5_1
                                replace p8 := eq_true p8
                                replace q8 := eq_true q8
                                go_wp2
                                go_roundg kj2
                                case measure => have := HK1.out; have := HJ2.out; omega
                                case rel => exact ⟨(wrap64 (x5_1 + 1)), (by first | rfl | (simp; done) | (simp [*]; done)), H', ⟨by have := HK1.out; have := HJ2.out; omega⟩, by repeat (first | exact Drawn0.refl _ | apply Drawn0.step)⟩
                          · rw [if_neg c22] at H
                            have c22b0 : decide ((bt a0 x5_1) ≤ 57) = false := decide_eq_false c22
                            clear c22
                            by_cases c25 : (bt a0 x5_1) = 45
                            · rw [if_pos c25] at H
                              have c25b0 : ((bt a0 x5_1) == 45) = true := beq_iff_eq.mpr c25
                              have c25b1 : ((bt a0 x5_1) != 45) = false := bne_eq_false_iff_eq.mpr c25
                              clear c25
                              by_cases c26 : ((bt a0 x5_1) = 95)
                              · rw [if_pos c26] at H
                                have c26b0 : ((bt a0 x5_1) == 95) = true := beq_iff_eq.mpr c26
                                have c26b1 : ((bt a0 x5_1) != 95) = false := bne_eq_false_iff_eq.mpr c26
                                clear c26
                                have H' := Aside0.mk H
                                clear H
                                have p8 : 0 ≤ (x5_1 : Int) := of_decide_eq_true (by first | (with_reducible assumption) | assumption)
                                have q8 : x5_1 < (a0.size : Int) := of_decide_eq_true (by first | (with_reducible assumption) | assumption)
                                have hx8 := bt_at a0 x5_1
                                replace p8 := eq_true p8
                                replace q8 := eq_true q8
                                go_wp2
                                go_roundg kj2
                                case measure => have := HK1.out; have := HJ2.out; omega
                                case rel => exact ⟨(wrap64 (x5_1 + 1)), (by first | rfl | (simp; done) | (simp [*]; done)), H', ⟨by have := HK1.out; have := HJ2.out; omega⟩, by repeat (first | exact Drawn0.refl _ | apply Drawn0.step)⟩
                              · rw [if_neg c26] at H
                                have c26b0 : ((bt a0 x5_1) == 95) = false := beq_eq_false_iff_ne.mpr c26
                                have c26b1 : ((bt a0 x5_1) != 95) = true := bne_iff_ne.mpr c26
                                by_cases c27 : x5_1 = a1
                                · rw [if_pos c27] at H
                                  have c27b0 : (x5_1 == a1) = true := beq_iff_eq.mpr c27
                                  have c27b1 : (x5_1 != a1) = false := bne_eq_false_iff_eq.mpr c27
                                  clear c27
                                  obtain rfl := Option.some.inj H
                                  have p8 : 0 ≤ (x5_1 : Int) := of_decide_eq_true (by first | (with_reducible assumption) | assumption)
                                  have q8 : x5_1 < (a0.size : Int) := of_decide_eq_true (by first | (with_reducible assumption) | assumption)
                                  have hx8 := bt_at a0 x5_1
                                  replace p8 := eq_true p8
                                  replace q8 := eq_true q8
                                  go_wp2
                                  go_ret
                                  exact ⟨by first | rfl | (simp; done) | (simp [*]; done), by repeat (first | exact Drawn0.refl _ | apply Drawn0.step)⟩
                                · rw [if_neg c27] at H
                                  have c27b0 : (x5_1 == a1) = false := beq_eq_false_iff_ne.mpr c27
                                  have c27b1 : (x5_1 != a1) = true := bne_iff_ne.mpr c27
                                  have H' := Aside0.mk H
                                  clear H
                                  have p8 : 0 ≤ (x5_1 : Int) := of_decide_eq_true (by first | (with_reducible assumption) | assumption)
                                  have q8 : x5_1 < (a0.size : Int) := of_decide_eq_true (by first | (with_reducible assumption) | assumption)
                                  have hx8 := bt_at a0 x5_1
                                  replace p8 := eq_true p8
                                  replace q8 := eq_true q8
                                  go_wp2
                                  go_roundg kj2
                                  case measure => have := HK1.out; have := HJ2.out; omega
                                  case rel => exact ⟨(wrap64 (x5_1 + 1)), (by first | rfl | (simp; done) | (simp [*]; done)), H', ⟨by have := HK1.out; have := HJ2.out; omega⟩, by repeat (first | exact Drawn0.refl _ | apply Drawn0.step)⟩
                            · rw [if_neg c25] at H
                              have c25b0 : ((bt a0 x5_1) == 45) = false := beq_eq_false_iff_ne.mpr c25
                              have c25b1 : ((bt a0 x5_1) != 45) = true := bne_iff_ne.mpr c25
                              by_cases c28 : ((bt a0 x5_1) = 95)
                              · rw [if_pos c28] at H
                                have c28b0 : ((bt a0 x5_1) == 95) = true := beq_iff_eq.mpr c28
                                have c28b1 : ((bt a0 x5_1) != 95) = false := bne_eq_false_iff_eq.mpr c28
                                clear c28
                                have H' := Aside0.mk H
                                clear H
                                have p8 : 0 ≤ (x5_1 : Int) := of_decide_eq_true (by first | (with_reducible assumption) | assumption)
                                have q8 : x5_1 < (a0.size : Int) := of_decide_eq_true (by first | (with_reducible assumption) | assumption)
                                have hx8 := bt_at a0 x5_1
                                replace p8 := eq_true p8
                                replace q8 := eq_true q8
                                go_wp2
                                go_roundg kj2
                                case measure => have := HK1.out; have := HJ2.out; omega
                                case rel => exact ⟨(wrap64 (x5_1 + 1)), (by first | rfl | (simp; done) | (simp [*]; done)), H', ⟨by have := HK1.out; have := HJ2.out; omega⟩, by repeat (first | exact Drawn0.refl _ | apply Drawn0.step)⟩
                              · rw [if_neg c28] at H
                                have c28b0 : ((bt a0 x5_1) == 95) = false := beq_eq_false_iff_ne.mpr c28
                                have c28b1 : ((bt a0 x5_1) != 95) = true := bne_iff_ne.mpr c28
                                by_cases c29 : ((bt a0 x5_1) = 46)
                                · rw [if_pos c29] at H
                                  have c29b0 : ((bt a0 x5_1) == 46) = true := beq_iff_eq.mpr c29
                                  have c29b1 : ((bt a0 x5_1) != 46) = false := bne_eq_false_iff_eq.mpr c29
                                  clear c29
                                  by_cases c30 : x5_1 = a1
                                  · rw [if_pos c30] at H
                                    have c30b0 : (x5_1 == a1) = true := beq_iff_eq.mpr c30
                                    have c30b1 : (x5_1 != a1) = false := bne_eq_false_iff_eq.mpr c30
                                    clear c30
                                    obtain rfl := Option.some.inj H
                                    have p8 : 0 ≤ (x5_1 : Int) := of_decide_eq_true (by first | (with_reducible assumption) | assumption)
                                    have q8 : x5_1 < (a0.size : Int) := of_decide_eq_true (by first | (with_reducible assumption) | assumption)
                                    have hx8 := bt_at a0 x5_1
                                    replace p8 := eq_true p8
                                    replace q8 := eq_true q8
                                    go_wp2
                                    go_ret
                                    exact ⟨by first | rfl | (simp; done) | (simp [*]; done), by repeat (first | exact Drawn0.refl _ | apply Drawn0.step)⟩
                                  · rw [if_neg c30] at H
                                    have c30b0 : (x5_1 == a1) = false := beq_eq_false_iff_ne.mpr c30
                                    have c30b1 : (x5_1 != a1) = true := bne_iff_ne.mpr c30
                                    have H' := Aside0.mk H
                                    clear H
                                    have p8 : 0 ≤ (x5_1 : Int) := of_decide_eq_true (by first | (with_reducible assumption) | assumption)
                                    have q8 : x5_1 < (a0.size : Int) := of_decide_eq_true (by first | (with_reducible assumption) | assumption)
                                    have hx8 := bt_at a0 x5_1
                                    replace p8 := eq_true p8
                                    replace q8 := eq_true q8
                                    go_wp2
                                    go_roundg kj2
                                    case measure => have := HK1.out; have := HJ2.out; omega
                                    case rel => exact ⟨(wrap64 (x5_1 + 1)), (by first | rfl | (simp; done) | (simp [*]; done)), H', ⟨by have := HK1.out; have := HJ2.out; omega⟩, by repeat (first | exact Drawn0.refl _ | apply Drawn0.step)⟩
                                · rw [if_neg c29] at H
                                  have c29b0 : ((bt a0 x5_1) == 46) = false := beq_eq_false_iff_ne.mpr c29
                                  have c29b1 : ((bt a0 x5_1) != 46) = true := bne_iff_ne.mpr c29
                                  obtain rfl := Option.some.inj H
                                  have p8 : 0 ≤ (x5_1 : Int) := of_decide_eq_true (by first | (with_reducible assumption) | assumption)
                                  have q8 : x5_1 < (a0.size : Int) := of_decide_eq_true (by first | (with_reducible assumption) | assumption)
                                  have hx8 := bt_at a0 x5_1
                                  replace p8 := eq_true p8
                                  replace q8 := eq_true q8
                                  go_wp2
                                  go_ret
                                  exact ⟨by first | rfl | (simp; done) | (simp [*]; done), by repeat (first | exact Drawn0.refl _ | apply Drawn0.step)⟩
                        · rw [if_neg c21] at H
                          have c21b0 : decide (48 ≤ (bt a0 x5_1)) = false := decide_eq_false c21
                          clear c21
                          by_cases c31 : (bt a0 x5_1) = 45
                          · rw [if_pos c31] at H
                            have c31b0 : ((bt a0 x5_1) == 45) = true := beq_iff_eq.mpr c31
                            have c31b1 : ((bt a0 x5_1) != 45) = false := bne_eq_false_iff_eq.mpr c31
                            clear c31
                            by_cases c32 : ((bt a0 x5_1) = 95)
                            · rw [if_pos c32] at H
                              have c32b0 : ((bt a0 x5_1) == 95) = true := beq_iff_eq.mpr c32
                              have c32b1 : ((bt a0 x5_1) != 95) = false := bne_eq_false_iff_eq.mpr c32
                              clear c32
                              have H' := Aside0.mk H
                              clear H
                              have p8 : 0 ≤ (x5_1 : Int) := of_decide_eq_true (by first | (with_reducible assumption) | assumption)
                              have q8 : x5_1 < (a0.size : Int) := of_decide_eq_true (by first | (with_reducible assumption) | assumption)
                              have hx8 := bt_at a0 x5_1
                              replace p8 := eq_true p8
                              replace q8 := eq_true q8
                              go_wp2
                              go_roundg kj2
                              case measure => have := HK1.out; have := HJ2.out; omega
                              case rel => exact ⟨(wrap64 (x5_1 + 1)), (by first | rfl | (simp; done) | (simp [*]; done)), H', ⟨by have := HK1.out; have := HJ2.out; omega⟩, by repeat (first | exact Drawn0.refl _ | apply Drawn0.step)⟩
                            · rw [if_neg c32] at H
                              have c32b0 : ((bt a0 x5_1) == 95) = false := beq_eq_false_iff_ne.mpr c32
                              have c32b1 : ((bt a0 x5_1) != 95) = true := bne_iff_ne.mpr c32
                              by_cases c33 : x5_1 = a1
                              · rw [if_pos c33] at H
                                have c33b0 : (x5_1 == a1) = true := beq_iff_eq.mpr c33
                                have c33b1 : (x5_1 != a1) = false := bne_eq_false_iff_eq.mpr c33
                                clear c33
                                obtain rfl := Option.some.inj H
                                have p8 : 0 ≤ (x5_1 : Int) := of_decide_eq_true (by first | (with_reducible assumption) | assumption)
                                have q8 : x5_1 < (a0.size : Int) := of_decide_eq_true (by first | (with_reducible assumption) | assumption)
                                have hx8 := bt_at a0 x5_1
                                replace p8 := eq_true p8
                                replace q8 := eq_true q8
                                go_wp2
                                go_ret
                                exact ⟨by first | rfl | (simp; done) | (simp [*]; done), by repeat (first | exact Drawn0.refl _ | apply Drawn0.step)⟩
                              · rw [if_neg c33] at H
                                have c33b0 : (x5_1 == a1) = false := beq_eq_false_iff_ne.mpr c33
                                have c33b1 : (x5_1 != a1) = true := bne_iff_ne.mpr c33
                                have H' := Aside0.mk H
                                clear H
                                have p8 : 0 ≤ (x5_1 : Int) := of_decide_eq_true (by first | (with_reducible assumption) | assumption)
                                have q8 : x5_1 < (a0.size : Int) := of_decide_eq_true (by first | (with_reducible assumption) | assumption)
                                have hx8 := bt_at a0 x5_1
                                replace p8 := eq_true p8
                                replace q8 := eq_true q8
                                go_wp2
                                go_roundg kj2
                                case measure => have := HK1.out; have := HJ2.out; omega
                                case rel => exact ⟨(wrap64 (x5_1 + 1)), (by first | rfl | (simp; done) | (simp [*]; done)), H', ⟨by have := HK1.out; have := HJ2.out; omega⟩, by repeat (first | exact Drawn0.refl _ | apply Drawn0.step)⟩
                          · rw [if_neg c31] at H
                            have c31b0 : ((bt a0 x5_1) == 45) = false := beq_eq_false_iff_ne.mpr c31
                            have c31b1 : ((bt a0 x5_1) != 45) = true := bne_iff_ne.mpr c31
                            by_cases c34 : ((bt a0 x5_1) = 95)
                            · rw [if_pos c34] at H
                              have c34b0 : ((bt a0 x5_1) == 95) = true := beq_iff_eq.mpr c34
                              have c34b1 : ((bt a0 x5_1) != 95) = false := bne_eq_false_iff_eq.mpr c34
                              clear c34
                              have H' := Aside0.mk H
                              clear H
                              have p8 : 0 ≤ (x5_1 : Int) := of_decide_eq_true (by first | (with_reducible assumption) | assumption)
                              have q8 : x5_1 < (a0.size : Int) := of_decide_eq_true (by first | (with_reducible assumption) | assumption)
                              have hx8 := bt_at a0 x5_1
                              replace p8 := eq_true p8
                              replace q8 := eq_true q8
                              go_wp2
                              go_roundg kj2
                              case measure => have := HK1.out; have := HJ2.out; omega
                              case rel => exact ⟨(wrap64 (x5_1 + 1)), (by first | rfl | (simp; done) | (simp [*]; done)), H', ⟨by have := HK1.out; have := HJ2.out; omega⟩, by repeat (first | exact Drawn0.refl _ | apply Drawn0.step)⟩
                            · rw [if_neg c34] at H
                              have c34b0 : ((bt a0 x5_1) == 95) = false := beq_eq_false_iff_ne.mpr c34
                              have c34b1 : ((bt a0 x5_1) != 95) = true := bne_iff_ne.mpr c34
                              by_cases c35 : ((bt a0 x5_1) = 46)
                              · rw [if_pos c35] at H
                                have c35b0 : ((bt a0 x5_1) == 46) = true := beq_iff_eq.mpr c35
                                have c35b1 : ((bt a0 x5_1) != 46) = false := bne_eq_false_iff_eq.mpr c35
                                clear c35
                                by_cases c36 : x5_1 = a1
                                · rw [if_pos c36] at H
                                  have c36b0 : (x5_1 == a1) = true := beq_iff_eq.mpr c36
                                  have c36b1 : (x5_1 != a1) = false := bne_eq_false_iff_eq.mpr c36
                                  clear c36
                                  obtain rfl := Option.some.inj H
                                  have p8 : 0 ≤ (x5_1 : Int) := of_decide_eq_true (by first | (with_reducible assumption) | assumption)
                                  have q8 : x5_1 < (a0.size : Int) := of_decide_eq_true (by first | (with_reducible assumption) | assumption)
                                  have hx8 := bt_at a0 x5_1
                                  replace p8 := eq_true p8
                                  replace q8 := eq_true q8
                                  go_wp2
                                  go_ret
                                  exact ⟨by first | rfl | (simp; done) | (simp [*]; done), by repeat (first | exact Drawn0.refl _ | apply Drawn0.step)⟩
                                · rw [if_neg c36] at H
                                  have c36b0 : (x5_1 == a1) = false := beq_eq_false_iff_ne.mpr c36
                                  have c36b1 : (x5_1 != a1) = true := bne_iff_ne.mpr c36
                                  have H' := Aside0.mk H
                                  clear H
                                  have p8 : 0 ≤ (x5_1 : Int) := of_decide_eq_true (by first | (with_reducible assumption) | assumption)
                                  have q8 : x5_1 < (a0.size : Int) := of_decide_eq_true (by first | (with_reducible assumption) | assumption)
                                  have hx8 := bt_at a0 x5_1
                                  replace p8 := eq_true p8
                                  replace q8 := eq_true q8
                                  go_wp2
                                  go_roundg kj2
                                  case measure => have := HK1.out; have := HJ2.out; omega
                                  case rel => exact ⟨(wrap64 (x5_1 + 1)), (by first | rfl | (simp; done) | (simp [*]; done)), H', ⟨by have := HK1.out; have := HJ2.out; omega⟩, by repeat (first | exact Drawn0.refl _ | apply Drawn0.step)⟩
                              · rw [if_neg c35] at H
                                have c35b0 : ((bt a0 x5_1) == 46) = false := beq_eq_false_iff_ne.mpr c35
                                have c35b1 : ((bt a0 x5_1) != 46) = true := bne_iff_ne.mpr c35
                                obtain rfl := Option.some.inj H
                                have p8 : 0 ≤ (x5_1 : Int) := of_decide_eq_true (by first | (with_reducible assumption) | assumption)
                                have q8 : x5_1 < (a0.size : Int) := of_decide_eq_true (by first | (with_reducible assumption) | assumption)
                                have hx8 := bt_at a0 x5_1
                                replace p8 := eq_true p8
                                replace q8 := eq_true q8
                                go_wp2
                                go_ret
                                exact ⟨by first | rfl | (simp; done) | (simp [*]; done), by repeat (first | exact Drawn0.refl _ | apply Drawn0.step)⟩
                    · rw [if_neg c15] at H
                      have c15b0 : decide (65 ≤ (bt a0 x5_1)) = false := decide_eq_false c15
                      clear c15
                      by_cases c37 : (bt a0 x5_1) ≥ 48
                      · rw [if_pos c37] at H
                        have c37b0 : decide (48 ≤ (bt a0 x5_1)) = true := decide_eq_true c37
                        clear c37
                        by_cases c38 : (bt a0 x5_1) ≤ 57
                        · rw [if_pos c38] at H
                          have c38b0 : decide ((bt a0 x5_1) ≤ 57) = true := decide_eq_true c38
                          clear c38
                          by_cases c39 : ((bt a0 x5_1) = 95)
                          · rw [if_pos c39] at H
                            have c39b0 : ((bt a0 x5_1) == 95) = true := beq_iff_eq.mpr c39
                            have c39b1 : ((bt a0 x5_1) != 95) = false := bne_eq_false_iff_eq.mpr c39
                            clear c39
                            have H' := Aside0.mk H
                            clear H
                            have p8 : 0 ≤ (x5_1 : Int) := of_decide_eq_true (by first | (with_reducible assumption) | assumption)
                            have q8 : x5_1 < (a0.size : Int) := of_decide_eq_true (by first | (with_reducible assumption) | assumption)
                            have hx8 := bt_at a0 x5_1
                            replace p8 := eq_true p8
                            replace q8 := eq_true q8
                            go_wp2
                            go_roundg kj2
                            case measure => have := HK1.out; have := HJ2.out; omega
                            case rel => exact ⟨(wrap64 (x5_1 + 1)), (by first | rfl | (simp; done) | (simp [*]; done)), H', ⟨by have := HK1.out; have := HJ2.out; omega⟩, by repeat (first | exact Drawn0.refl _ | apply Drawn0.step)⟩
                          · rw [if_neg c39] at H
                            have c39b0 : ((bt a0 x5_1) == 95) = false := beq_eq_false_iff_ne.mpr c39
                            have c39b1 : ((bt a0 x5_1) != 95) = true := bne_iff_ne.mpr c39
                            by_cases c40 : x5_1 = a1
                            · rw [if_pos c40] at H
                              have c40b0 : (x5_1 == a1) = true := beq_iff_eq.mpr c40
                              have c40b1 : (x5_1 != a1) = false := bne_eq_false_iff_eq.mpr c40
                              clear c40
                              obtain rfl := Option.some.inj H
                              have p8 : 0 ≤ (x5_1 : Int) := of_decide_eq_true (by first | (with_reducible assumption) | assumption)
                              have q8 : x5_1 < (a0.size : Int) := of_decide_eq_true (by first | (with_reducible assumption) | assumption)
                              have hx8 := bt_at a0 x5_1
                              replace p8 := eq_true p8
                              replace q8 := eq_true q8
                              go_wp2
                              go_ret
                              exact ⟨by first | rfl | (simp; done) | (simp [*]; done), by repeat (first | exact Drawn0.refl _ | apply Drawn0.step)⟩
                            · rw [if_neg c40] at H
                              have c40b0 : (x5_1 == a1) = false := beq_eq_false_iff_ne.mpr c40
                              have c40b1 : (x5_1 != a1) = true := bne_iff_ne.mpr c40
                              have H' := Aside0.mk H
                              clear H
                              have p8 : 0 ≤ (x5_1 : Int) := of_decide_eq_true (by first | (with_reducible assumption) | assumption)
                              have q8 : x5_1 < (a0.size : Int) := of_decide_eq_true (by first | (with_reducible assumption) | assumption)
                              have hx8 := bt_at a0 x5_1
                              replace p8 := eq_true p8
                              replace q8 := eq_true q8
                              go_wp2
                              go_roundg kj2
                              case measure => have := HK1.out; have := HJ2.out; omega
                              case rel => exact ⟨(wrap64 (x5_1 + 1)), (by first | rfl | (simp; done) | (simp [*]; done)), H', ⟨by have := HK1.out; have := HJ2.out; omega⟩, by repeat (first | exact Drawn0.refl _ | apply Drawn0.step)⟩
                        · rw [if_neg c38] at H
                          have c38b0 : decide ((bt a0 x5_1) ≤ 57) = false := decide_eq_false c38
                          clear c38
                          by_cases c41 : (bt a0 x5_1) = 45
                          · rw [if_pos c41] at H
                            have c41b0 : ((bt a0 x5_1) == 45) = true := beq_iff_eq.mpr c41
                            have c41b1 : ((bt a0 x5_1) != 45) = false := bne_eq_false_iff_eq.mpr c41
                            clear c41
                            by_cases c42 : ((bt a0 x5_1) = 95)
                            · rw [if_pos c42] at H
                              have c42b0 : ((bt a0 x5_1) == 95) = true := beq_iff_eq.mpr c42
                              have c42b1 : ((bt a0 x5_1) != 95) = false := bne_eq_false_iff_eq.mpr c42
                              clear c42
                              have H' := Aside0.mk H
                              clear H
                              have p8 : 0 ≤ (x5_1 : Int) := of_decide_eq_true (by first | (with_reducible assumption) | assumption)
                              have q8 : x5_1 < (a0.size : Int) := of_decide_eq_true (by first | (with_reducible assumption) | assumption)
                              have hx8 := bt_at a0 x5_1
                              replace p8 := eq_true p8
                              replace q8 := eq_true q8
                              go_wp2
                              go_roundg kj2
                              case measure => have := HK1.out; have := HJ2.out; omega
                              case rel => exact ⟨(wrap64 (x5_1 + 1)), (by first | rfl | (simp; done) | (simp [*]; done)), H', ⟨by have := HK1.out; have := HJ2.out; omega⟩, by repeat (first | exact Drawn0.refl _ | apply Drawn0.step)⟩
                            · rw [if_neg c42] at H
                              have c42b0 : ((bt a0 x5_1) == 95) = false := beq_eq_false_iff_ne.mpr c42
                              have c42b1 : ((bt a0 x5_1) != 95) = true := bne_iff_ne.mpr c42
                              by_cases c43 : x5_1 = a1
                              · rw [if_pos c43] at H
                                have c43b0 : (x5_1 == a1) = true := beq_iff_eq.mpr c43
                                have c43b1 : (x5_1 != a1) = false := bne_eq_false_iff_eq.mpr c43
                                clear c43
                                obtain rfl := Option.some.inj H
                                have p8 : 0 ≤ (x5_1 : Int) := of_decide_eq_true (by first | (with_reducible assumption) | assumption)
                                have q8 : x5_1 < (a0.size : Int) := of_decide_eq_true (by first | (with_reducible assumption) | assumption)
                                have hx8 := bt_at a0 x5_1
                                replace p8 := eq_true p8
                                replace q8 := eq_true q8
                                go_wp2
                                go_ret
                                exact ⟨by first | rfl | (simp; done) | (simp [*]; done), by repeat (first | exact Drawn0.refl _ | apply Drawn0.step)⟩
                              · rw [if_neg c43] at H
                                have c43b0 : (x5_1 == a1) = false := beq_eq_false_iff_ne.mpr c43
                                have c43b1 : (x5_1 != a1) = true := bne_iff_ne.mpr c43
                                have H' := Aside0.mk H
                                clear H
                                have p8 : 0 ≤ (x5_1 : Int) := of_decide_eq_true (by first | (with_reducible assumption) | assumption)
                                have q8 : x5_1 < (a0.size : Int) := of_decide_eq_true (by first | (with_reducible assumption) | assumption)
                                have hx8 := bt_at a0 x5_1
                                replace p8 := eq_true p8
                                replace q8 := eq_true q8
                                go_wp2
                                go_roundg kj2
                                case measure => have := HK1.out; have := HJ2.out; omega
                                case rel => exact ⟨(wrap64 (x5_1 + 1)), (by first | rfl | (simp; done) | (simp [*]; done)), H', ⟨by have := HK1.out; have := HJ2.out; omega⟩, by repeat (first | exact Drawn0.refl _ | apply Drawn0.step)⟩
                          · rw [if_neg c41] at H
                            have c41b0 : ((bt a0 x5_1) == 45) = false := beq_eq_false_iff_ne.mpr c41
                            have c41b1 : ((bt a0 x5_1) != 45) = true := bne_iff_ne.mpr c41
                            by_cases c44 : ((bt a0 x5_1) = 95)
                            · rw [if_pos c44] at H
                              have c44b0 : ((bt a0 x5_1) == 95) = true := beq_iff_eq.mpr c44
                              have c44b1 : ((bt a0 x5_1) != 95) = false := bne_eq_false_iff_eq.mpr c44
                              clear c44
                              have H' := Aside0.mk H
                              clear H
                              have p8 : 0 ≤ (x5_1 : Int) := of_decide_eq_true (by first | (with_reducible assumption) | assumption)
                              have q8 : x5_1 < (a0.size : Int) := of_decide_eq_true (by first | (with_reducible assumption) | assumption)
                              have hx8 := bt_at a0 x5_1
                              replace p8 := eq_true p8
                              replace q8 := eq_true q8
                              go_wp2
                              go_roundg kj2
                              case measure => have := HK1.out; have := HJ2.out; omega
                              case rel => exact ⟨(wrap64 (x5_1 + 1)), (by first | rfl | (simp; done) | (simp [*]; done)), H', ⟨by have := HK1.out; have := HJ2.out; omega⟩, by repeat (first | exact Drawn0.refl _ | apply Drawn0.step)⟩
                            · rw [if_neg c44] at H
                              have c44b0 : ((bt a0 x5_1) == 95) = false := beq_eq_false_iff_ne.mpr c44
                              have c44b1 : ((bt a0 x5_1) != 95) = true := bne_iff_ne.mpr c44
                              by_cases c45 : ((bt a0 x5_1) = 46)
                              · rw [if_pos c45] at H
                                have c45b0 : ((bt a0 x5_1) == 46) = true := beq_iff_eq.mpr c45
                                have c45b1 : ((bt a0 x5_1) != 46) = false := bne_eq_false_iff_eq.mpr c45
                                clear c45
                                by_cases c46 : x5_1 = a1
                                · rw [if_pos c46] at H
                                  have c46b0 : (x5_1 == a1) = true := beq_iff_eq.mpr c46
                                  have c46b1 : (x5_1 != a1) = false := bne_eq_false_iff_eq.mpr c46
                                  clear c46
                                  obtain rfl := Option.some.inj H
                                  have p8 : 0 ≤ (x5_1 : Int) := of_decide_eq_true (by first | (with_reducible assumption) | assumption)
                                  have q8 : x5_1 < (a0.size : Int) := of_decide_eq_true (by first | (with_reducible assumption) | assumption)
                                  have hx8 := bt_at a0 x5_1
                                  replace p8 := eq_true p8
                                  replace q8 := eq_true q8
                                  go_wp2
                                  go_ret
                                  exact ⟨by first | rfl | (simp; done) | (simp [*]; done), by repeat (first | exact Drawn0.refl _ | apply Drawn0.step)⟩
                                · rw [if_neg c46] at H
                                  have c46b0 : (x5_1 == a1) = false := beq_eq_false_iff_ne.mpr c46
                                  have c46b1 : (x5_1 != a1) = true := bne_iff_ne.mpr c46
                                  have H' := Aside0.mk H
                                  clear H
                                  have p8 : 0 ≤ (x5_1 : Int) := of_decide_eq_true (by first | (with_reducible assumption) | assumption)
                                  have q8 : x5_1 < (a0.size : Int) := of_decide_eq_true (by first | (with_reducible assumption) | assumption)
                                  have hx8 := bt_at a0 x5_1
                                  replace p8 := eq_true p8
                                  replace q8 := eq_true q8
                                  go_wp2
                                  go_roundg kj2
                                  case measure => have := HK1.out; have := HJ2.out; omega
                                  case rel => exact ⟨(wrap64 (x5_1 + 1)), (by first | rfl | (simp; done) | (simp [*]; done)), H', ⟨by have := HK1.out; have := HJ2.out; omega⟩, by repeat (first | exact Drawn0.refl _ | apply Drawn0.step)⟩
                              · rw [if_neg c45] at H
                                have c45b0 : ((bt a0 x5_1) == 46) = false := beq_eq_false_iff_ne.mpr c45
                                have c45b1 : ((bt a0 x5_1) != 46) = true := bne_iff_ne.mpr c45
                                obtain rfl := Option.some.inj H
                                have p8 : 0 ≤ (x5_1 : Int) := of_decide_eq_true (by first | (with_reducible assumption) | assumption)
                                have q8 : x5_1 < (a0.size : Int) := of_decide_eq_true (by first | (with_reducible assumption) | assumption)
                                have hx8 := bt_at a0 x5_1
                                replace p8 := eq_true p8
                                replace q8 := eq_true q8
                                go_wp2
                                go_ret
                                exact ⟨by first | rfl | (simp; done) | (simp [*]; done), by repeat (first | exact Drawn0.refl _ | apply Drawn0.step)⟩
                      · rw [if_neg c37] at H
                        have c37b0 : decide (48 ≤ (bt a0 x5_1)) = false := decide_eq_false c37
                        clear c37
                        by_cases c47 : (bt a0 x5_1) = 45
                        · rw [if_pos c47] at H
                          have c47b0 : ((bt a0 x5_1) == 45) = true := beq_iff_eq.mpr c47
                          have c47b1 : ((bt a0 x5_1) != 45) = false := bne_eq_false_iff_eq.mpr c47
                          clear c47
                          by_cases c48 : ((bt a0 x5_1) = 95)
                          · rw [if_pos c48] at H
                            have c48b0 : ((bt a0 x5_1) == 95) = true := beq_iff_eq.mpr c48
                            have c48b1 : ((bt a0 x5_1) != 95) = false := bne_eq_false_iff_eq.mpr c48
                            clear c48
                            have H' := Aside0.mk H
                            clear H
                            have p8 : 0 ≤ (x5_1 : Int) := of_decide_eq_true (by first | (with_reducible assumption) | assumption)
                            have q8 : x5_1 < (a0.size : Int) := of_decide_eq_true (by first | (with_reducible assumption) | assumption)
                            have hx8 := bt_at a0 x5_1
                            replace p8 := eq_true p8
                            replace q8 := eq_true q8
                            go_wp2
                            go_roundg kj2
                            case measure => have := HK1.out; have := HJ2.out; omega
                            case rel => exact ⟨(wrap64 (x5_1 + 1)), (by first | rfl | (simp; done) | (simp [*]; done)), H', ⟨by have := HK1.out; have := HJ2.out; omega⟩, by repeat (first | exact Drawn0.refl _ | apply Drawn0.step)⟩
                          · rw [if_neg c48] at H
                            have c48b0 : ((bt a0 x5_1) == 95) = false := beq_eq_false_iff_ne.mpr c48
                            have c48b1 : ((bt a0 x5_1) != 95) = true := bne_iff_ne.mpr c48
                            by_cases c49 : x5_1 = a1
                            · rw [if_pos c49] at H
                              have c49b0 : (x5_1 == a1) = true := beq_iff_eq.mpr c49
                              have c49b1 : (x5_1 != a1) = false := bne_eq_false_iff_eq.mpr c49
                              clear c49
                              obtain rfl := Option.some.inj H
                              have p8 : 0 ≤ (x5_1 : Int) := of_decide_eq_true (by first | (with_reducible assumption) | assumption)
                              have q8 : x5_1 < (a0.size : Int) := of_decide_eq_true (by first | (with_reducible assumption) | assumption)
                              have hx8 := bt_at a0 x5_1
                              replace p8 := eq_true p8
                              replace q8 := eq_true q8
                              go_wp2
                              go_ret
                              exact ⟨by first | rfl | (simp; done) | (simp [*]; done), by repeat (first | exact Drawn0.refl _ | apply Drawn0.step)⟩
                            · rw [if_neg c49] at H
                              have c49b0 : (x5_1 == a1) = false := beq_eq_false_iff_ne.mpr c49
                              have c49b1 : (x5_1 != a1) = true := bne_iff_ne.mpr c49
                              have H' := Aside0.mk H
                              clear H
                              have p8 : 0 ≤ (x5_1 : Int) := of_decide_eq_true (by first | (with_reducible assumption) | assumption)
                              have q8 : x5_1 < (a0.size : Int) := of_decide_eq_true (by first | (with_reducible assumption) | assumption)
                              have hx8 := bt_at a0 x5_1
                              replace p8 := eq_true p8
                              replace q8 := eq_true q8
                              go_wp2
                              go_roundg kj2
                              case measure => have := HK1.out; have := HJ2.out; omega
                              case rel => exact ⟨(wrap64 (x5_1 + 1)), (by first | rfl | (simp; done) | (simp [*]; done)), H', ⟨by have := HK1.out; have := HJ2.out; omega⟩, by repeat (first | exact Drawn0.refl _ | apply Drawn0.step)⟩
                        · rw [if_neg c47] at H
                          have c47b0 : ((bt a0 x5_1) == 45) = false := beq_eq_false_iff_ne.mpr c47
                          have c47b1 : ((bt a0 x5_1) != 45) = true := bne_iff_ne.mpr c47
                          by_cases c50 : ((bt a0 x5_1) = 95)
                          · rw [if_pos c50] at H
                            have c50b0 : ((bt a0 x5_1) == 95) = true := beq_iff_eq.mpr c50
                            have c50b1 : ((bt a0 x5_1) != 95) = false := bne_eq_false_iff_eq.mpr c50
                            clear c50
                            have H' := Aside0.mk H
                            clear H
                            have p8 : 0 ≤ (x5_1 : Int) := of_decide_eq_true (by first | (with_reducible assumption) | assumption)
                            have q8 : x5_1 < (a0.size : Int) := of_decide_eq_true (by first | (with_reducible assumption) | assumption)
                            have hx8 := bt_at a0 x5_1
                            replace p8 := eq_true p8
                            replace q8 := eq_true q8
                            go_wp2
                            go_roundg kj2
                            case measure => have := HK1.out; have := HJ2.out; omega
                            case rel => exact ⟨(wrap64 (x5_1 + 1)), (by first | rfl | (simp; done) | (simp [*]; done)), H', ⟨by have := HK1.out; have := HJ2.out; omega⟩, by repeat (first | exact Drawn0.refl _ | apply Drawn0.step)⟩
                          · rw [if_neg c50] at H
                            have c50b0 : ((bt a0 x5_1) == 95) = false := beq_eq_false_iff_ne.mpr c50
                            have c50b1 : ((bt a0 x5_1) != 95) = true := bne_iff_ne.mpr c50
                            by_cases c51 : ((bt a0 x5_1) = 46)
                            · rw [if_pos c51] at H
                              have c51b0 : ((bt a0 x5_1) == 46) = true := beq_iff_eq.mpr c51
                              have c51b1 : ((bt a0 x5_1) != 46) = false := bne_eq_false_iff_eq.mpr c51
                              clear c51
                              by_cases c52 : x5_1 = a1
                              · rw [if_pos c52] at H
                                have c52b0 : (x5_1 == a1) = true := beq_iff_eq.mpr c52
                                have c52b1 : (x5_1 != a1) = false := bne_eq_false_iff_eq.mpr c52
                                clear c52
                                obtain rfl := Option.some.inj H
                                have p8 : 0 ≤ (x5_1 : Int) := of_decide_eq_true (by first | (with_reducible assumption) | assumption)
                                have q8 : x5_1 < (a0.size : Int) := of_decide_eq_true (by first | (with_reducible assumption) | assumption)
                                have hx8 := bt_at a0 x5_1
                                replace p8 := eq_true p8
                                replace q8 := eq_true q8
                                go_wp2
                                go_ret
                                exact ⟨by first | rfl | (simp; done) | (simp [*]; done), by repeat (first | exact Drawn0.refl _ | apply Drawn0.step)⟩
                              · rw [if_neg c52] at H
                                have c52b0 : (x5_1 == a1) = false := beq_eq_false_iff_ne.mpr c52
                                have c52b1 : (x5_1 != a1) = true := bne_iff_ne.mpr c52
                                have H' := Aside0.mk H
                                clear H
                                have p8 : 0 ≤ (x5_1 : Int) := of_decide_eq_true (by first | (with_reducible assumption) | assumption)
                                have q8 : x5_1 < (a0.size : Int) := of_decide_eq_true (by first | (with_reducible assumption) | assumption)
                                have hx8 := bt_at a0 x5_1
                                replace p8 := eq_true p8
                                replace q8 := eq_true q8
                                go_wp2
                                go_roundg kj2
                                case measure => have := HK1.out; have := HJ2.out; omega
                                case rel => exact ⟨(wrap64 (x5_1 + 1)), (by first | rfl | (simp; done) | (simp [*]; done)), H', ⟨by have := HK1.out; have := HJ2.out; omega⟩, by repeat (first | exact Drawn0.refl _ | apply Drawn0.step)⟩
                            · rw [if_neg c51] at H
                              have c51b0 : ((bt a0 x5_1) == 46) = false := beq_eq_false_iff_ne.mpr c51
                              have c51b1 : ((bt a0 x5_1) != 46) = true := bne_iff_ne.mpr c51
                              obtain rfl := Option.some.inj H
                              have p8 : 0 ≤ (x5_1 : Int) := of_decide_eq_true (by first | (with_reducible assumption) | assumption)
                              have q8 : x5_1 < (a0.size : Int) := of_decide_eq_true (by first | (with_reducible assumption) | assumption)
                              have hx8 := bt_at a0 x5_1
                              replace p8 := eq_true p8
                              replace q8 := eq_true q8
                              go_wp2
                              go_ret
                              exact ⟨by first | rfl | (simp; done) | (simp [*]; done), by repeat (first | exact Drawn0.refl _ | apply Drawn0.step)⟩
                · rw [if_neg c9] at H
                  have c9b0 : decide (97 ≤ (bt a0 x5_1)) = false := decide_eq_false c9
                  clear c9
                  by_cases c53 : (bt a0 x5_1) ≥ 65
                  · rw [if_pos c53] at H
                    have c53b0 : decide (65 ≤ (bt a0 x5_1)) = true := decide_eq_true c53
                    clear c53
                    by_cases c54 : (bt a0 x5_1) ≤ 90
                    · rw [if_pos c54] at H
                      have c54b0 : decide ((bt a0 x5_1) ≤ 90) = true := decide_eq_true c54
                      clear c54
                      by_cases c55 : (bt a0 x5_1) ≥ 48
                      · rw [if_pos c55] at H
                        have c55b0 : decide (48 ≤ (bt a0 x5_1)) = true := decide_eq_true c55
                        clear c55
                        by_cases c56 : (bt a0 x5_1) ≤ 57
                        · rw [if_pos c56] at H
                          have c56b0 : decide ((bt a0 x5_1) ≤ 57) = true := decide_eq_true c56
                          clear c56
                          have H' := Aside0.mk H
                          clear H
                          have p8 : 0 ≤ (x5_1 : Int) := of_decide_eq_true (by first | (with_reducible assumption) | assumption)
                          have q8 : x5_1 < (a0.size : Int) := of_decide_eq_true (by first | (with_reducible assumption) | assumption)
                          have hx8 := bt_at a0 x5_1
                          replace p8 := eq_true p8
                          replace q8 := eq_true q8
                          go_wp2
                          go_roundg kj2
                          case measure => have := HK1.out; have := HJ2.out; omega
                          case rel => exact ⟨(wrap64 (x5_1 + 1)), (by first | rfl | (simp; done) | (simp [*]; done)), H', ⟨by have := HK1.out; have := HJ2.out; omega⟩, by repeat (first | exact Drawn0.refl _ | apply Drawn0.step)⟩
                        · rw [if_neg c56] at H
                          have c56b0 : decide ((bt a0 x5_1) ≤ 57) = false := decide_eq_false c56
                          clear c56
                          by_cases c57 : (bt a0 x5_1) = 45
                          · rw [if_pos c57] at H
                            have c57b0 : ((bt a0 x5_1) == 45) = true := beq_iff_eq.mpr c57
                            have c57b1 : ((bt a0 x5_1) != 45) = false := bne_eq_false_iff_eq.mpr c57
                            clear c57
                            have H' := Aside0.mk H
                            clear H
                            have p8 : 0 ≤ (x5_1 : Int) := of_decide_eq_true (by first | (with_reducible assumption) | assumption)
                            have q8 : x5_1 < (a0.size : Int) := of_decide_eq_true (by first | (with_reducible assumption) | assumption)
                            have hx8 := bt_at a0 x5_1
                            replace p8 := eq_true p8
                            replace q8 := eq_true q8
                            go_wp2
                            go_roundg kj2
                            case measure => have := HK1.out; have := HJ2.out; omega
                            case rel => exact ⟨(wrap64 (x5_1 + 1)), (by first | rfl | (simp; done) | (simp [*]; done)), H', ⟨by have := HK1.out; have := HJ2.out; omega⟩, by repeat (first | exact Drawn0.refl _ | apply Drawn0.step)⟩
                          · rw [if_neg c57] at H
                            have c57b0 : ((bt a0 x5_1) == 45) = false := beq_eq_false_iff_ne.mpr c57
                            have c57b1 : ((bt a0 x5_1) != 45) = true := bne_iff_ne.mpr c57
                            have H' := Aside0.mk H
                            clear H
                            have p8 : 0 ≤ (x5_1 : Int) := of_decide_eq_true (by first | (with_reducible assumption) | assumption)
                            have q8 : x5_1 < (a0.size : Int) := of_decide_eq_true (by first | (with_reducible assumption) | assumption)
                            have hx8 := bt_at a0 x5_1
                            replace p8 := eq_true p8
                            replace q8 := eq_true q8
                            go_wp2
                            go_roundg kj2
                            case measure => have := HK1.out; have := HJ2.out; omega
                            case rel => exact ⟨(wrap64 (x5_1 + 1)), (by first | rfl | (simp; done) | (simp [*]; done)), H', ⟨by have := HK1.out; have := HJ2.out; omega⟩, by repeat (first | exact Drawn0.refl _ | apply Drawn0.step)⟩
                      · rw [if_neg c55] at H
                        have c55b0 : decide (48 ≤ (bt a0 x5_1)) = false := decide_eq_false c55
                        clear c55
                        by_cases c58 : (bt a0 x5_1) = 45
                        · rw [if_pos c58] at H
                          have c58b0 : ((bt a0 x5_1) == 45) = true := beq_iff_eq.mpr c58
                          have c58b1 : ((bt a0 x5_1) != 45) = false := bne_eq_false_iff_eq.mpr c58
                          clear c58
                          have H' := Aside0.mk H
                          clear H
                          have p8 : 0 ≤ (x5_1 : Int) := of_decide_eq_true (by first | (with_reducible assumption) | assumption)
                          have q8 : x5_1 < (a0.size : Int) := of_decide_eq_true (by first | (with_reducible assumption) | assumption)
                          have hx8 := bt_at a0 x5_1
                          replace p8 := eq_true p8
                          replace q8 := eq_true q8
                          go_wp2
                          go_roundg kj2
                          case measure => have := HK1.out; have := HJ2.out; omega
                          case rel => exact ⟨(wrap64 (x5_1 + 1)), (by first | rfl | (simp; done) | (simp [*]; done)), H', ⟨by have := HK1.out; have := HJ2.out; omega⟩, by repeat (first | exact Drawn0.refl _ | apply Drawn0.step)⟩
                        · rw [if_neg c58] at H
                          have c58b0 : ((bt a0 x5_1) == 45) = false := beq_eq_false_iff_ne.mpr c58
                          have c58b1 : ((bt a0 x5_1) != 45) = true := bne_iff_ne.mpr c58
                          have H' := Aside0.mk H
                          clear H
                          have p8 : 0 ≤ (x5_1 : Int) := of_decide_eq_true (by first | (with_reducible assumption) | assumption)
                          have q8 : x5_1 < (a0.size : Int) := of_decide_eq_true (by first | (with_reducible assumption) | assumption)
                          have hx8 := bt_at a0 x5_1
                          replace p8 := eq_true p8
                          replace q8 := eq_true q8
                          go_wp2
                          go_roundg kj2
                          case measure => have := HK1.out; have := HJ2.out; omega
                          case rel => exact ⟨(wrap64 (x5_1 + 1)), (by first | rfl | (simp; done) | (simp [*]; done)), H', ⟨by have := HK1.out; have := HJ2.out; omega⟩, by repeat (first | exact Drawn0.refl _ | apply Drawn0.step)⟩
                    · rw [if_neg c54] at H
                      have c54b0 : decide ((bt a0 x5_1) ≤ 90) = false := decide_eq_false c54
                      clear c54
                      by_cases c59 : (bt a0 x5_1) ≥ 48
                      · rw [if_pos c59] at H
                        have c59b0 : decide (48 ≤ (bt a0 x5_1)) = true := decide_eq_true c59
                        clear c59
                        by_cases c60 : (bt a0 x5_1) ≤ 57
                        · rw [if_pos c60] at H
                          have c60b0 : decide ((bt a0 x5_1) ≤ 57) = true := decide_eq_true c60
                          clear c60
                          by_cases c61 : ((bt a0 x5_1) = 95)
                          · rw [if_pos c61] at H
                            have c61b0 : ((bt a0 x5_1) == 95) = true := beq_iff_eq.mpr c61
                            have c61b1 : ((bt a0 x5_1) != 95) = false := bne_eq_false_iff_eq.mpr c61
                            clear c61
                            have H' := Aside0.mk H
                            clear H
                            have p8 : 0 ≤ (x5_1 : Int) := of_decide_eq_true (by first | (with_reducible assumption) | assumption)
                            have q8 : x5_1 < (a0.size : Int) := of_decide_eq_true (by first | (with_reducible assumption) | assumption)
                            have hx8 := bt_at a0 x5_1
                            replace p8 := eq_true p8
                            replace q8 := eq_true q8
                            go_wp2
                            go_roundg kj2
                            case measure => have := HK1.out; have := HJ2.out; omega
                            case rel => exact ⟨(wrap64 (x5_1 + 1)), (by first | rfl | (simp; done) | (simp [*]; done)), H', ⟨by have := HK1.out; have := HJ2.out; omega⟩, by repeat (first | exact Drawn0.refl _ | apply Drawn0.step)⟩
                          · rw [if_neg c61] at H
                            have c61b0 : ((bt a0 x5_1) == 95) = false := beq_eq_false_iff_ne.mpr c61
                            have c61b1 : ((bt a0 x5_1) != 95) = true := bne_iff_ne.mpr c61
                            by_cases c62 : x5_1 = a1
                            · rw [if_pos c62] at H
                              have c62b0 : (x5_1 == a1) = true := beq_iff_eq.mpr c62
                              have c62b1 : (x5_1 != a1) = false := bne_eq_false_iff_eq.mpr c62
                              clear c62
                              obtain rfl := Option.some.inj H
                              have p8 : 0 ≤ (x5_1 : Int) := of_decide_eq_true (by first | (with_reducible assumption) | assumption)
                              have q8 : x5_1 < (a0.size : Int) := of_decide_eq_true (by first | (with_reducible assumption) | assumption)
                              have hx8 := bt_at a0 x5_1
                              replace p8 := eq_true p8
                              replace q8 := eq_true q8
                              go_wp2
                              go_ret
                              exact ⟨by first | rfl | (simp; done) | (simp [*]; done), by repeat (first | exact Drawn0.refl _ | apply Drawn0.step)⟩
                            · rw [if_neg c62] at H
                              have c62b0 : (x5_1 == a1) = false := beq_eq_false_iff_ne.mpr c62
                              have c62b1 : (x5_1 != a1) = true := bne_iff_ne.mpr c62
                              have H' := Aside0.mk H
                              clear H
                              have p8 : 0 ≤ (x5_1 : Int) := of_decide_eq_true (by first | (with_reducible assumption) | assumption)
                              have q8 : x5_1 < (a0.size : Int) := of_decide_eq_true (by first | (with_reducible assumption) | assumption)
                              have hx8 := bt_at a0 x5_1
                              replace p8 := eq_true p8
                              replace q8 := eq_true q8
                              go_wp2
                              go_roundg kj2
                              case measure => have := HK1.out; have := HJ2.out; omega
                              case rel => exact ⟨(wrap64 (x5_1 + 1)), (by first | rfl | (simp; done) | (simp [*]; done)), H', ⟨by have := HK1.out; have := HJ2.out; omega⟩, by repeat (first | exact Drawn0.refl _ | apply Drawn0.step)⟩
                        · rw [if_neg c60] at H
                          have c60b0 : decide ((bt a0 x5_1) ≤ 57) = false := decide_eq_false c60
                          clear c60
                          by_cases c63 : (bt a0 x5_1) = 45
                          · rw [if_pos c63] at H
                            have c63b0 : ((bt a0 x5_1) == 45) = true := beq_iff_eq.mpr c63
                            have c63b1 : ((bt a0 x5_1) != 45) = false := bne_eq_false_iff_eq.mpr c63
                            clear c63
                            by_cases c64 : ((bt a0 x5_1) = 95)
                            · rw [if_pos c64] at H
                              have c64b0 : ((bt a0 x5_1) == 95) = true := beq_iff_eq.mpr c64
                              have c64b1 : ((bt a0 x5_1) != 95) = false := bne_eq_false_iff_eq.mpr c64
                              clear c64
                              have H' := Aside0.mk H
                              clear H
                              have p8 : 0 ≤ (x5_1 : Int) := of_decide_eq_true (by first | (with_reducible assumption) | assumption)
                              have q8 : x5_1 < (a0.size : Int) := of_decide_eq_true (by first | (with_reducible assumption) | assumption)
                              have hx8 := bt_at a0 x5_1
                              replace p8 := eq_true p8
                              replace q8 := eq_true q8
                              go_wp2
                              go_roundg kj2
                              case measure => have := HK1.out; have := HJ2.out; omega
                              case rel => exact ⟨(wrap64 (x5_1 + 1)), (by first | rfl | (simp; done) | (simp [*]; done)), H', ⟨by have := HK1.out; have := HJ2.out; omega⟩, by repeat (first | exact Drawn0.refl _ | apply Drawn0.step)⟩
                            · rw [if_neg c64] at H
                              have c64b0 : ((bt a0 x5_1) == 95) = false := beq_eq_false_iff_ne.mpr c64
                              have c64b1 : ((bt a0 x5_1) != 95) = true := bne_iff_ne.mpr c64
                              by_cases c65 : x5_1 = a1
                              · rw [if_pos c65] at H
                                have c65b0 : (x5_1 == a1) = true := beq_iff_eq.mpr c65
                                have c65b1 : (x5_1 != a1) = false := bne_eq_false_iff_eq.mpr c65
                                clear c65
                                obtain rfl := Option.some.inj H
                                have p8 : 0 ≤ (x5_1 : Int) := of_decide_eq_true (by first | (with_reducible assumption) | assumption)
                                have q8 : x5_1 < (a0.size : Int) := of_decide_eq_true (by first | (with_reducible assumption) | assumption)
                                have hx8 := bt_at a0 x5_1
                                replace p8 := eq_true p8
                                replace q8 := eq_true q8
                                go_wp2
                                go_ret
                                exact ⟨by first | rfl | (simp; done) | (simp [*]; done), by repeat (first | exact Drawn0.refl _ | apply Drawn0.step)⟩
                              · rw [if_neg c65] at H
                                have c65b0 : (x5_1 == a1) = false := beq_eq_false_iff_ne.mpr c65
                                have c65b1 : (x5_1 != a1) = true := bne_iff_ne.mpr c65
                                have H' := Aside0.mk H
                                clear H
                                have p8 : 0 ≤ (x5_1 : Int) := of_decide_eq_true (by first | (with_reducible assumption) | assumption)
                                have q8 : x5_1 < (a0.size : Int) := of_decide_eq_true (by first | (with_reducible assumption) | assumption)
                                have hx8 := bt_at a0 x5_1
                                replace p8 := eq_true p8
                                replace q8 := eq_true q8
                                go_wp2
                                go_roundg kj2
                                case measure => have := HK1.out; have := HJ2.out; omega
                                case rel => exact ⟨(wrap64 (x5_1 + 1)), (by first | rfl | (simp; done) | (simp [*]; done)), H', ⟨by have := HK1.out; have := HJ2.out; omega⟩, by repeat (first | exact Drawn0.refl _ | apply Drawn0.step)⟩
                          · rw [if_neg c63] at H
                            have c63b0 : ((bt a0 x5_1) == 45) = false := beq_eq_false_iff_ne.mpr c63
                            have c63b1 : ((bt a0 x5_1) != 45) = true := bne_iff_ne.mpr c63
                            by_cases c66 : ((bt a0 x5_1) = 95)
                            · rw [if_pos c66] at H
                              have c66b0 : ((bt a0 x5_1) == 95) = true := beq_iff_eq.mpr c66
                              have c66b1 : ((bt a0 x5_1) != 95) = false := bne_eq_false_iff_eq.mpr c66
                              clear c66
                              have H' := Aside0.mk H
                              clear H
                              have p8 : 0 ≤ (x5_1 : Int) := of_decide_eq_true (by first | (with_reducible assumption) | assumption)
                              have q8 : x5_1 < (a0.size : Int) := of_decide_eq_true (by first | (with_reducible assumption) | assumption)
                              have hx8 := bt_at a0 x5_1
                              replace p8 := eq_true p8
                              replace q8 := eq_true q8
                              go_wp2
                              go_roundg kj2
                              case measure => have := HK1.out; have := HJ2.out; omega
                              case rel => exact ⟨(wrap64 (x5_1 + 1)), (by first | rfl | (simp; done) | (simp [*]; done)), H', ⟨by have := HK1.out; have := HJ2.out; omega⟩, by repeat (first | exact Drawn0.refl _ | apply Drawn0.step)⟩
                            · rw [if_neg c66] at H
                              have c66b0 : ((bt a0 x5_1) == 95) = false := beq_eq_false_iff_ne.mpr c66
                              have c66b1 : ((bt a0 x5_1) != 95) = true := bne_iff_ne.mpr c66
                              by_cases c67 : ((bt a0 x5_1) = 46)
                              · rw [if_pos c67] at H
                                have c67b0 : ((bt a0 x5_1) == 46) = true := beq_iff_eq.mpr c67
                                have c67b1 : ((bt a0 x5_1) != 46) = false := bne_eq_false_iff_eq.mpr c67
                                clear c67
                                by_cases c68 : x5_1 = a1
                                · rw [if_pos c68] at H
                                  have c68b0 : (x5_1 == a1) = true := beq_iff_eq.mpr c68
                                  have c68b1 : (x5_1 != a1) = false := bne_eq_false_iff_eq.mpr c68
                                  clear c68
                                  obtain rfl := Option.some.inj H
                                  have p8 : 0 ≤ (x5_1 : Int) := of_decide_eq_true (by first | (with_reducible assumption) | assumption)
                                  have q8 : x5_1 < (a0.size : Int) := of_decide_eq_true (by first | (with_reducible assumption) | assumption)
                                  have hx8 := bt_at a0 x5_1
                                  replace p8 := eq_true p8
                                  replace q8 := eq_true q8
                                  go_wp2
                                  go_ret
                                  exact ⟨by first | rfl | (simp; done) | (simp [*]; done), by repeat (first | exact Drawn0.refl _ | apply Drawn0.step)⟩
                                · rw [if_neg c68] at H
                                  have c68b0 : (x5_1 == a1) = false := beq_eq_false_iff_ne.mpr c68
                                  have c68b1 : (x5_1 != a1) = true := bne_iff_ne.mpr c68
                                  have H' := Aside0.mk H
                                  clear H
                                  have p8 : 0 ≤ (x5_1 : Int) := of_decide_eq_true (by first | (with_reducible assumption) | assumption)
                                  have q8 : x5_1 < (a0.size : Int) := of_decide_eq_true (by first | (with_reducible assumption) | assumption)
                                  have hx8 := bt_at a0 x5_1
                                  replace p8 := eq_true p8
                                  replace q8 := eq_true q8
                                  go_wp2
                                  go_roundg kj2
                                  case measure => have := HK1.out; have := HJ2.out; omega
                                  case rel => exact ⟨(wrap64 (x5_1 + 1)), (by first | rfl | (simp; done) | (simp [*]; done)), H', ⟨by have := HK1.out; have := HJ2.out; omega⟩, by repeat (first | exact Drawn0.refl _ | apply Drawn0.step)⟩
                              · rw [if_neg c67] at H
                                have c67b0 : ((bt a0 x5_1) == 46) = false := beq_eq_false_iff_ne.mpr c67
                                have c67b1 : ((bt a0 x5_1) != 46) = true := bne_iff_ne.mpr c67
                                obtain rfl := Option.some.inj H
                                have p8 : 0 ≤ (x5_1 : Int) := of_decide_eq_true (by first | (with_reducible assumption) | assumption)
                                have q8 : x5_1 < (a0.size : Int) := of_decide_eq_true (by first | (with_reducible assumption) | assumption)
                                have hx8 := bt_at a0 x5_1
                                replace p8 := eq_true p8
                                replace q8 := eq_true q8
                                go_wp2
                                go_ret
                                exact ⟨by first | rfl | (simp; done) | (simp [*]; done), by repeat (first | exact Drawn0.refl _ | apply Drawn0.step)⟩
                      · rw [if_neg c59] at H
                        have c59b0 : decide (48 ≤ (bt a0 x5_1)) = false := decide_eq_false c59
                        clear c59
                        by_cases c69 : (bt a0 x5_1) = 45
                        · rw [if_pos c69] at H
                          have c69b0 : ((bt a0 x5_1) == 45) = true := beq_iff_eq.mpr c69
                          have c69b1 : ((bt a0 x5_1) != 45) = false := bne_eq_false_iff_eq.mpr c69
                          clear c69
                          by_cases c70 : ((bt a0 x5_1) = 95)
                          · rw [if_pos c70] at H
                            have c70b0 : ((bt a0 x5_1) == 95) = true := beq_iff_eq.mpr c70
                            have c70b1 : ((bt a0 x5_1) != 95) = false := bne_eq_false_iff_eq.mpr c70
                            clear c70
                            have H' := Aside0.mk H
                            clear H
                            have p8 : 0 ≤ (x5_1 : Int) := of_decide_eq_true (by first | (with_reducible assumption) | assumption)
                            have q8 : x5_1 < (a0.size : Int) := of_decide_eq_true (by first | (with_reducible assumption) | assumption)
                            have hx8 := bt_at a0 x5_1
                            replace p8 := eq_true p8
                            replace q8 := eq_true q8
                            go_wp2
                            go_roundg kj2
                            case measure => have := HK1.out; have := HJ2.out; omega
                            case rel => exact ⟨(wrap64 (x5_1 + 1)), (by first | rfl | (simp; done) | (simp [*]; done)), H', ⟨by have := HK1.out; have := HJ2.out; omega⟩, by repeat (first | exact Drawn0.refl _ | apply Drawn0.step)⟩
                          · rw [if_neg c70] at H
                            have c70b0 : ((bt a0 x5_1) == 95) = false := beq_eq_false_iff_ne.mpr c70
                            have c70b1 : ((bt a0 x5_1) != 95) = true := bne_iff_ne.mpr c70
                            by_cases c71 : x5_1 = a1
                            · rw [if_pos c71] at H
                              have c71b0 : (x5_1 == a1) = true := beq_iff_eq.mpr c71
                              have c71b1 : (x5_1 != a1) = false := bne_eq_false_iff_eq.mpr c71
                              clear c71
                              obtain rfl := Option.some.inj H
                              have p8 : 0 ≤ (x5_1 : Int) := of_decide_eq_true (by first | (with_reducible assumption) | assumption)
                              have q8 : x5_1 < (a0.size : Int) := of_decide_eq_true (by first | (with_reducible assumption) | assumption)
                              have hx8 := bt_at a0 x5_1
                              replace p8 := eq_true p8
                              replace q8 := eq_true q8
                              go_wp2
                              go_ret
                              exact ⟨by first | rfl | (simp; done) | (simp [*]; done), by repeat (first | exact Drawn0.refl _ | apply Drawn0.step)⟩
                            · rw [if_neg c71] at H
                              have c71b0 : (x5_1 == a1) = false := beq_eq_false_iff_ne.mpr c71
                              have c71b1 : (x5_1 != a1) = true := bne_iff_ne.mpr c71
                              have H' := Aside0.mk H
                              clear H
                              have p8 : 0 ≤ (x5_1 : Int) := of_decide_eq_true (by first | (with_reducible assumption) | assumption)
                              have q8 : x5_1 < (a0.size : Int) := of_decide_eq_true (by first | (with_reducible assumption) | assumption)
                              have hx8 := bt_at a0 x5_1
                              replace p8 := eq_true p8
                              replace q8 := eq_true q8
                              go_wp2
                              go_roundg kj2
                              case measure => have := HK1.out; have := HJ2.out; omega
                              case rel => exact ⟨(wrap64 (x5_1 + 1)), (by first | rfl | (simp; done) | (simp [*]; done)), H', ⟨by have := HK1.out; have := HJ2.out; omega⟩, by repeat (first | exact Drawn0.refl _ | apply Drawn0.step)⟩
                        · rw [if_neg c69] at H
                          have c69b0 : ((bt a0 x5_1) == 45) = false := beq_eq_false_iff_ne.mpr c69
                          have c69b1 : ((bt a0 x5_1) != 45) = true := bne_iff_ne.mpr c69
                          by_cases c72 : ((bt a0 x5_1) = 95)
                          · rw [if_pos c72] at H
                            have c72b0 : ((bt a0 x5_1) == 95) = true := beq_iff_eq.mpr c72
                            have c72b1 : ((bt a0 x5_1) != 95) = false := bne_eq_false_iff_eq.mpr c72
                            clear c72
                            have H' := Aside0.mk H
                            clear H
                            have p8 : 0 ≤ (x5_1 : Int) := of_decide_eq_true (by first | (with_reducible assumption) | assumption)
                            have q8 : x5_1 < (a0.size : Int) := of_decide_eq_true (by first | (with_reducible assumption) | assumption)
                            have hx8 := bt_at a0 x5_1
                            replace p8 := eq_true p8
                            replace q8 := eq_true q8
                            go_wp2
                            go_roundg kj2
                            case measure => have := HK1.out; have := HJ2.out; omega
                            case rel => exact ⟨(wrap64 (x5_1 + 1)), (by first | rfl | (simp; done) | (simp [*]; done)), H', ⟨by have := HK1.out; have := HJ2.out; omega⟩, by repeat (first | exact Drawn0.refl _ | apply Drawn0.step)⟩
                          · rw [if_neg c72] at H
                            have c72b0 : ((bt a0 x5_1) == 95) = false := beq_eq_false_iff_ne.mpr c72
                            have c72b1 : ((bt a0 x5_1) != 95) = true := bne_iff_ne.mpr c72
                            by_cases c73 : ((bt a0 x5_1) = 46)
                            · rw [if_pos c73] at H
                              have c73b0 : ((bt a0 x5_1) == 46) = true := beq_iff_eq.mpr c73
                              have c73b1 : ((bt a0 x5_1) != 46) = false := bne_eq_false_iff_eq.mpr c73
                              clear c73
                              by_cases c74 : x5_1 = a1
                              · rw [if_pos c74] at H
                                have c74b0 : (x5_1 == a1) = true := beq_iff_eq.mpr c74
                                have c74b1 : (x5_1 != a1) = false := bne_eq_false_iff_eq.mpr c74
                                clear c74
                                obtain rfl := Option.some.inj H
                                have p8 : 0 ≤ (x5_1 : Int) := of_decide_eq_true (by first | (with_reducible assumption) | assumption)
                                have q8 : x5_1 < (a0.size : Int) := of_decide_eq_true (by first | (with_reducible assumption) | assumption)
                                have hx8 := bt_at a0 x5_1
                                replace p8 := eq_true p8
                                replace q8 := eq_true q8
                                go_wp2
                                go_ret
                                exact ⟨by first | rfl | (simp; done) | (simp [*]; done), by repeat (first | exact Drawn0.refl _ | apply Drawn0.step)⟩
                              · rw [if_neg c74] at H
                                have c74b0 : (x5_1 == a1) = false := beq_eq_false_iff_ne.mpr c74
                                have c74b1 : (x5_1 != a1) = true := bne_iff_ne.mpr c74
                                have H' := Aside0.mk H
                                clear H
                                have p8 : 0 ≤ (x5_1 : Int) := of_decide_eq_true (by first | (with_reducible assumption) | assumption)
                                have q8 : x5_1 < (a0.size : Int) := of_decide_eq_true (by first | (with_reducible assumption) | assumption)
                                have hx8 := bt_at a0 x5_1
                                replace p8 := eq_true p8
                                replace q8 := eq_true q8
                                go_wp2
                                go_roundg kj2
                                case measure => have := HK1.out; have := HJ2.out; omega
                                case rel => exact ⟨(wrap64 (x5_1 + 1)), (by first | rfl | (simp; done) | (simp [*]; done)), H', ⟨by have := HK1.out; have := HJ2.out; omega⟩, by repeat (first | exact Drawn0.refl _ | apply Drawn0.step)⟩
                            · rw [if_neg c73] at H
                              have c73b0 : ((bt a0 x5_1) == 46) = false := beq_eq_false_iff_ne.mpr c73
                              have c73b1 : ((bt a0 x5_1) != 46) = true := bne_iff_ne.mpr c73
                              obtain rfl := Option.some.inj H
                              have p8 : 0 ≤ (x5_1 : Int) := of_decide_eq_true (by first | (with_reducible assumption) | assumption)
                              have q8 : x5_1 < (a0.size : Int) := of_decide_eq_true (by first | (with_reducible assumption) | assumption)
                              have hx8 := bt_at a0 x5_1
                              replace p8 := eq_true p8
                              replace q8 := eq_true q8
                              go_wp2
                              go_ret
                              exact ⟨by first | rfl | (simp; done) | (simp [*]; done), by repeat (first | exact Drawn0.refl _ | apply Drawn0.step)⟩
                  · rw [if_neg c53] at H
                    have c53b0 : decide (65 ≤ (bt a0 x5_1)) = false := decide_eq_false c53
                    clear c53
                    by_cases c75 : (bt a0 x5_1) ≥ 48
                    · rw [if_pos c75] at H
                      have c75b0 : decide (48 ≤ (bt a0 x5_1)) = true := decide_eq_true c75
                      clear c75
                      by_cases c76 : (bt a0 x5_1) ≤ 57
                      · rw [if_pos c76] at H
                        have c76b0 : decide ((bt a0 x5_1) ≤ 57) = true := decide_eq_true c76
                        clear c76
                        by_cases c77 : ((bt a0 x5_1) = 95)
                        · rw [if_pos c77] at H
                          have c77b0 : ((bt a0 x5_1) == 95) = true := beq_iff_eq.mpr c77
                          have c77b1 : ((bt a0 x5_1) != 95) = false := bne_eq_false_iff_eq.mpr c77
                          clear c77
                          have H' := Aside0.mk H
                          clear H
                          have p8 : 0 ≤ (x5_1 : Int) := of_decide_eq_true (by first | (with_reducible assumption) | assumption)
                          have q8 : x5_1 < (a0.size : Int) := of_decide_eq_true (by first | (with_reducible assumption) | assumption)
                          have hx8 := bt_at a0 x5_1
                          replace p8 := eq_true p8
                          replace q8 := eq_true q8
                          go_wp2
                          go_roundg kj2
                          case measure => have := HK1.out; have := HJ2.out; omega
                          case rel => exact ⟨(wrap64 (x5_1 + 1)), (by first | rfl | (simp; done) | (simp [*]; done)), H', ⟨by have := HK1.out; have := HJ2.out; omega⟩, by repeat (first | exact Drawn0.refl _ | apply Drawn0.step)⟩
                        · rw [if_neg c77] at H
                          have c77b0 : ((bt a0 x5_1) == 95) = false := beq_eq_false_iff_ne.mpr c77
                          have c77b1 : ((bt a0 x5_1) != 95) = true := bne_iff_ne.mpr c77
                          by_cases c78 : x5_1 = a1
                          · rw [if_pos c78] at H
                            have c78b0 : (x5_1 == a1) = true := beq_iff_eq.mpr c78
                            have c78b1 : (x5_1 != a1) = false := bne_eq_false_iff_eq.mpr c78
                            clear c78
                            obtain rfl := Option.some.inj H
                            have p8 : 0 ≤ (x5_1 : Int) := of_decide_eq_true (by first | (with_reducible assumption) | assumption)
                            have q8 : x5_1 < (a0.size : Int) := of_decide_eq_true (by first | (with_reducible assumption) | assumption)
                            have hx8 := bt_at a0 x5_1
                            replace p8 := eq_true p8
                            replace q8 := eq_true q8
                            go_wp2
                            go_ret
                            exact ⟨by first | rfl | (simp; done) | (simp [*]; done), by repeat (first | exact Drawn0.refl _ | apply Drawn0.step)⟩
                          · rw [if_neg c78] at H
                            have c78b0 : (x5_1 == a1) = false := beq_eq_false_iff_ne.mpr c78
                            have c78b1 : (x5_1 != a1) = true := bne_iff_ne.mpr c78
                            have H' := Aside0.mk H
                            clear H
                            have p8 : 0 ≤ (x5_1 : Int) := of_decide_eq_true (by first | (with_reducible assumption) | assumption)
                            have q8 : x5_1 < (a0.size : Int) := of_decide_eq_true (by first | (with_reducible assumption) | assumption)
                            have hx8 := bt_at a0 x5_1
                            replace p8 := eq_true p8
                            replace q8 := eq_true q8
                            go_wp2
                            go_roundg kj2
                            case measure => have := HK1.out; have := HJ2.out; omega
                            case rel => exact ⟨(wrap64 (x5_1 + 1)), (by first | rfl | (simp; done) | (simp [*]; done)), H', ⟨by have := HK1.out; have := HJ2.out; omega⟩, by repeat (first | exact Drawn0.refl _ | apply Drawn0.step)⟩
                      · rw [if_neg c76] at H
                        have c76b0 : decide ((bt a0 x5_1) ≤ 57) = false := decide_eq_false c76
                        clear c76
                        by_cases c79 : (bt a0 x5_1) = 45
                        · rw [if_pos c79] at H
                          have c79b0 : ((bt a0 x5_1) == 45) = true := beq_iff_eq.mpr c79
                          have c79b1 : ((bt a0 x5_1) != 45) = false := bne_eq_false_iff_eq.mpr c79
                          clear c79
                          by_cases c80 : ((bt a0 x5_1) = 95)
                          · rw [if_pos c80] at H
                            have c80b0 : ((bt a0 x5_1) == 95) = true := beq_iff_eq.mpr c80
                            have c80b1 : ((bt a0 x5_1) != 95) = false := bne_eq_false_iff_eq.mpr c80
                            clear c80
                            have H' := Aside0.mk H
                            clear H
                            have p8 : 0 ≤ (x5_1 : Int) := of_decide_eq_true (by first | (with_reducible assumption) | assumption)
                            have q8 : x5_1 < (a0.size : Int) := of_decide_eq_true (by first | (with_reducible assumption) | assumption)
                            have hx8 := bt_at a0 x5_1
                            replace p8 := eq_true p8
                            replace q8 := eq_true q8
                            go_wp2
                            go_roundg kj2
                            case measure => have := HK1.out; have := HJ2.out; omega
                            case rel => exact ⟨(wrap64 (x5_1 + 1)), (by first | rfl | (simp; done) | (simp [*]; done)), H', ⟨by have := HK1.out; have := HJ2.out; omega⟩, by repeat (first | exact Drawn0.refl _ | apply Drawn0.step)⟩
                          · rw [if_neg c80] at H
                            have c80b0 : ((bt a0 x5_1) == 95) = false := beq_eq_false_iff_ne.mpr c80
                            have c80b1 : ((bt a0 x5_1) != 95) = true := bne_iff_ne.mpr c80
                            by_cases c81 : x5_1 = a1
                            · rw [if_pos c81] at H
                              have c81b0 : (x5_1 == a1) = true := beq_iff_eq.mpr c81
                              have c81b1 : (x5_1 != a1) = false := bne_eq_false_iff_eq.mpr c81
                              clear c81
                              obtain rfl := Option.some.inj H
                              have p8 : 0 ≤ (x5_1 : Int) := of_decide_eq_true (by first | (with_reducible assumption) | assumption)
                              have q8 : x5_1 < (a0.size : Int) := of_decide_eq_true (by first | (with_reducible assumption) | assumption)
                              have hx8 := bt_at a0 x5_1
                              replace p8 := eq_true p8
                              replace q8 := eq_true q8
                              go_wp2
                              go_ret
                              exact ⟨by first | rfl | (simp; done) | (simp [*]; done), by repeat (first | exact Drawn0.refl _ | apply Drawn0.step)⟩
                            · rw [if_neg c81] at H
                              have c81b0 : (x5_1 == a1) = false := beq_eq_false_iff_ne.mpr c81
                              have c81b1 : (x5_1 != a1) = true := bne_iff_ne.mpr c81
                              have H' := Aside0.mk H
                              clear H
                              have p8 : 0 ≤ (x5_1 : Int) := of_decide_eq_true (by first | (with_reducible assumption) | assumption)
                              have q8 : x5_1 < (a0.size : Int) := of_decide_eq_true (by first | (with_reducible assumption) | assumption)
                              have hx8 := bt_at a0 x5_1
                              replace p8 := eq_true p8
                              replace q8 := eq_true q8
                              go_wp2
                              go_roundg kj2
                              case measure => have := HK1.out; have := HJ2.out; omega
                              case rel => exact ⟨(wrap64 (x5_1 + 1)), (by first | rfl | (simp; done) | (simp [*]; done)), H', ⟨by have := HK1.out; have := HJ2.out; omega⟩, by repeat (first | exact Drawn0.refl _ | apply Drawn0.step)⟩
                        · rw [if_neg c79] at H
                          have c79b0 : ((bt a0 x5_1) == 45) = false := beq_eq_false_iff_ne.mpr c79
                          have c79b1 : ((bt a0 x5_1) != 45) = true := bne_iff_ne.mpr c79
                          by_cases c82 : ((bt a0 x5_1) = 95)
                          · rw [if_pos c82] at H
                            have c82b0 : ((bt a0 x5_1) == 95) = true := beq_iff_eq.mpr c82
                            have c82b1 : ((bt a0 x5_1) != 95) = false := bne_eq_false_iff_eq.mpr c82
                            clear c82
                            have H' := Aside0.mk H
                            clear H
                            have p8 : 0 ≤ (x5_1 : Int) := of_decide_eq_true (by first | (with_reducible assumption) | assumption)
                            have q8 : x5_1 < (a0.size : Int) := of_decide_eq_true (by first | (with_reducible assumption) | assumption)
                            have hx8 := bt_at a0 x5_1
                            replace p8 := eq_true p8
                            replace q8 := eq_true q8
                            go_wp2
                            go_roundg kj2
                            case measure => have := HK1.out; have := HJ2.out; omega
                            case rel => exact ⟨(wrap64 (x5_1 + 1)), (by first | rfl | (simp; done) | (simp [*]; done)), H', ⟨by have := HK1.out; have := HJ2.out; omega⟩, by repeat (first | exact Drawn0.refl _ | apply Drawn0.step)⟩
                          · rw [if_neg c82] at H
                            have c82b0 : ((bt a0 x5_1) == 95) = false := beq_eq_false_iff_ne.mpr c82
                            have c82b1 : ((bt a0 x5_1) != 95) = true := bne_iff_ne.mpr c82
                            by_cases c83 : ((bt a0 x5_1) = 46)
                            · rw [if_pos c83] at H
                              have c83b0 : ((bt a0 x5_1) == 46) = true := beq_iff_eq.mpr c83
                              have c83b1 : ((bt a0 x5_1) != 46) = false := bne_eq_false_iff_eq.mpr c83
                              clear c83
                              by_cases c84 : x5_1 = a1
                              · rw [if_pos c84] at H
                                have c84b0 : (x5_1 == a1) = true := beq_iff_eq.mpr c84
                                have c84b1 : (x5_1 != a1) = false := bne_eq_false_iff_eq.mpr c84
                                clear c84
                                obtain rfl := Option.some.inj H
                                have p8 : 0 ≤ (x5_1 : Int) := of_decide_eq_true (by first | (with_reducible assumption) | assumption)
                                have q8 : x5_1 < (a0.size : Int) := of_decide_eq_true (by first | (with_reducible assumption) | assumption)
                                have hx8 := bt_at a0 x5_1
                                replace p8 := eq_true p8
                                replace q8 := eq_true q8
                                go_wp2
                                go_ret
                                exact ⟨by first | rfl | (simp; done) | (simp [*]; done), by repeat (first | exact Drawn0.refl _ | apply Drawn0.step)⟩
                              · rw [if_neg c84] at H
                                have c84b0 : (x5_1 == a1) = false := beq_eq_false_iff_ne.mpr c84
                                have c84b1 : (x5_1 != a1) = true := bne_iff_ne.mpr c84
                                have H' := Aside0.mk H
                                clear H
                                have p8 : 0 ≤ (x5_1 : Int) := of_decide_eq_true (by first | (with_reducible assumption) | assumption)
                                have q8 : x5_1 < (a0.size : Int) := of_decide_eq_true (by first | (with_reducible assumption) | assumption)
                                have hx8 := bt_at a0 x5_1
                                replace p8 := eq_true p8
                                replace q8 := eq_true q8
                                go_wp2
                                go_roundg kj2
                                case measure => have := HK1.out; have := HJ2.out; omega
                                case rel => exact ⟨(wrap64 (x5_1 + 1)), (by first | rfl | (simp; done) | (simp [*]; done)), H', ⟨by have := HK1.out; have := HJ2.out; omega⟩, by repeat (first | exact Drawn0.refl _ | apply Drawn0.step)⟩
                            · rw [if_neg c83] at H
                              have c83b0 : ((bt a0 x5_1) == 46) = false := beq_eq_false_iff_ne.mpr c83
                              have c83b1 : ((bt a0 x5_1) != 46) = true := bne_iff_ne.mpr c83
                              obtain rfl := Option.some.inj H
                              have p8 : 0 ≤ (x5_1 : Int) := of_decide_eq_true (by first | (with_reducible assumption) | assumption)
                              have q8 : x5_1 < (a0.size : Int) := of_decide_eq_true (by first | (with_reducible assumption) | assumption)
                              have hx8 := bt_at a0 x5_1
                              replace p8 := eq_true p8
                              replace q8 := eq_true q8
                              go_wp2
                              go_ret
                              exact ⟨by first | rfl | (simp; done) | (simp [*]; done), by repeat (first | exact Drawn0.refl _ | apply Drawn0.step)⟩
                    · rw [if_neg c75] at H
                      have c75b0 : decide (48 ≤ (bt a0 x5_1)) = false := decide_eq_false c75
                      clear c75
                      by_cases c85 : (bt a0 x5_1) = 45
                      · rw [if_pos c85] at H
                        have c85b0 : ((bt a0 x5_1) == 45) = true := beq_iff_eq.mpr c85
                        have c85b1 : ((bt a0 x5_1) != 45) = false := bne_eq_false_iff_eq.mpr c85
                        clear c85
                        by_cases c86 : ((bt a0 x5_1) = 95)
                        · rw [if_pos c86] at H
                          have c86b0 : ((bt a0 x5_1) == 95) = true := beq_iff_eq.mpr c86
                          have c86b1 : ((bt a0 x5_1) != 95) = false := bne_eq_false_iff_eq.mpr c86
                          clear c86
                          have H' := Aside0.mk H
                          clear H
                          have p8 : 0 ≤ (x5_1 : Int) := of_decide_eq_true (by first | (with_reducible assumption) | assumption)
                          have q8 : x5_1 < (a0.size : Int) := of_decide_eq_true (by first | (with_reducible assumption) | assumption)
                          have hx8 := bt_at a0 x5_1
                          replace p8 := eq_true p8
                          replace q8 := eq_true q8
                          go_wp2
                          go_roundg kj2
                          case measure => have := HK1.out; have := HJ2.out; omega
                          case rel => exact ⟨(wrap64 (x5_1 + 1)), (by first | rfl | (simp; done) | (simp [*]; done)), H', ⟨by have := HK1.out; have := HJ2.out; omega⟩, by repeat (first | exact Drawn0.refl _ | apply Drawn0.step)⟩
                        · rw [if_neg c86] at H
                          have c86b0 : ((bt a0 x5_1) == 95) = false := beq_eq_false_iff_ne.mpr c86
                          have c86b1 : ((bt a0 x5_1) != 95) = true := bne_iff_ne.mpr c86
                          by_cases c87 : x5_1 = a1
                          · rw [if_pos c87] at H
                            have c87b0 : (x5_1 == a1) = true := beq_iff_eq.mpr c87
                            have c87b1 : (x5_1 != a1) = false := bne_eq_false_iff_eq.mpr c87
                            clear c87
                            obtain rfl := Option.some.inj H
                            have p8 : 0 ≤ (x5_1 : Int) := of_decide_eq_true (by first | (with_reducible assumption) | assumption)
                            have q8 : x5_1 < (a0.size : Int) := of_decide_eq_true (by first | (with_reducible assumption) | assumption)
                            have hx8 := bt_at a0 x5_1
                            replace p8 := eq_true p8
                            replace q8 := eq_true q8
                            go_wp2
                            go_ret
                            exact ⟨by first | rfl | (simp; done) | (simp [*]; done), by repeat (first | exact Drawn0.refl _ | apply Drawn0.step)⟩
                          · rw [if_neg c87] at H
                            have c87b0 : (x5_1 == a1) = false := beq_eq_false_iff_ne.mpr c87
                            have c87b1 : (x5_1 != a1) = true := bne_iff_ne.mpr c87
                            have H' := Aside0.mk H
                            clear H
                            have p8 : 0 ≤ (x5_1 : Int) := of_decide_eq_true (by first | (with_reducible assumption) | assumption)
                            have q8 : x5_1 < (a0.size : Int) := of_decide_eq_true (by first | (with_reducible assumption) | assumption)
                            have hx8 := bt_at a0 x5_1
                            replace p8 := eq_true p8
                            replace q8 := eq_true q8
                            go_wp2
                            go_roundg kj2
                            case measure => have := HK1.out; have := HJ2.out; omega
                            case rel => exact ⟨(wrap64 (x5_1 + 1)), (by first | rfl | (simp; done) | (simp [*]; done)), H', ⟨by have := HK1.out; have := HJ2.out; omega⟩, by repeat (first | exact Drawn0.refl _ | apply Drawn0.step)⟩
                      · rw [if_neg c85] at H
                        have c85b0 : ((bt a0 x5_1) == 45) = false := beq_eq_false_iff_ne.mpr c85
                        have c85b1 : ((bt a0 x5_1) != 45) = true := bne_iff_ne.mpr c85
                        by_cases c88 : ((bt a0 x5_1) = 95)
                        · rw [if_pos c88] at H
                          have c88b0 : ((bt a0 x5_1) == 95) = true := beq_iff_eq.mpr c88
                          have c88b1 : ((bt a0 x5_1) != 95) = false := bne_eq_false_iff_eq.mpr c88
                          clear c88
                          have H' := Aside0.mk H
                          clear H
                          have p8 : 0 ≤ (x5_1 : Int) := of_decide_eq_true (by first | (with_reducible assumption) | assumption)
                          have q8 : x5_1 < (a0.size : Int) := of_decide_eq_true (by first | (with_reducible assumption) | assumption)
                          have hx8 := bt_at a0 x5_1
                          replace p8 := eq_true p8
                          replace q8 := eq_true q8
                          go_wp2
                          go_roundg kj2
                          case measure => have := HK1.out; have := HJ2.out; omega
                          case rel => exact ⟨(wrap64 (x5_1 + 1)), (by first | rfl | (simp; done) | (simp [*]; done)), H', ⟨by have := HK1.out; have := HJ2.out; omega⟩, by repeat (first | exact Drawn0.refl _ | apply Drawn0.step)⟩
                        · rw [if_neg c88] at H
                          have c88b0 : ((bt a0 x5_1) == 95) = false := beq_eq_false_iff_ne.mpr c88
                          have c88b1 : ((bt a0 x5_1) != 95) = true := bne_iff_ne.mpr c88
                          by_cases c89 : ((bt a0 x5_1) = 46)
                          · rw [if_pos c89] at H
                            have c89b0 : ((bt a0 x5_1) == 46) = true := beq_iff_eq.mpr c89
                            have c89b1 : ((bt a0 x5_1) != 46) = false := bne_eq_false_iff_eq.mpr c89
                            clear c89
                            by_cases c90 : x5_1 = a1
                            · rw [if_pos c90] at H
                              have c90b0 : (x5_1 == a1) = true := beq_iff_eq.mpr c90
                              have c90b1 : (x5_1 != a1) = false := bne_eq_false_iff_eq.mpr c90
                              clear c90
                              obtain rfl := Option.some.inj H
                              have p8 : 0 ≤ (x5_1 : Int) := of_decide_eq_true (by first | (with_reducible assumption) | assumption)
                              have q8 : x5_1 < (a0.size : Int) := of_decide_eq_true (by first | (with_reducible assumption) | assumption)
                              have hx8 := bt_at a0 x5_1
                              replace p8 := eq_true p8
                              replace q8 := eq_true q8
                              go_wp2
                              go_ret
                              exact ⟨by first | rfl | (simp; done) | (simp [*]; done), by repeat (first | exact Drawn0.refl _ | apply Drawn0.step)⟩
                            · rw [if_neg c90] at H
                              have c90b0 : (x5_1 == a1) = false := beq_eq_false_iff_ne.mpr c90
                              have c90b1 : (x5_1 != a1) = true := bne_iff_ne.mpr c90
                              have H' := Aside0.mk H
                              clear H
                              have p8 : 0 ≤ (x5_1 : Int) := of_decide_eq_true (by first | (with_reducible assumption) | assumption)
                              have q8 : x5_1 < (a0.size : Int) := of_decide_eq_true (by first | (with_reducible assumption) | assumption)
                              have hx8 := bt_at a0 x5_1
                              replace p8 := eq_true p8
                              replace q8 := eq_true q8
                              go_wp2
                              go_roundg kj2
                              case measure => have := HK1.out; have := HJ2.out; omega
                              case rel => exact ⟨(wrap64 (x5_1 + 1)), (by first | rfl | (simp; done) | (simp [*]; done)), H', ⟨by have := HK1.out; have := HJ2.out; omega⟩, by repeat (first | exact Drawn0.refl _ | apply Drawn0.step)⟩
                          · rw [if_neg c89] at H
                            have c89b0 : ((bt a0 x5_1) == 46) = false := beq_eq_false_iff_ne.mpr c89
                            have c89b1 : ((bt a0 x5_1) != 46) = true := bne_iff_ne.mpr c89
                            obtain rfl := Option.some.inj H
                            have p8 : 0 ≤ (x5_1 : Int) := of_decide_eq_true (by first | (with_reducible assumption) | assumption)
                            have q8 : x5_1 < (a0.size : Int) := of_decide_eq_true (by first | (with_reducible assumption) | assumption)
                            have hx8 := bt_at a0 x5_1
                            replace p8 := eq_true p8
                            replace q8 := eq_true q8
                            go_wp2
                            go_ret
                            exact ⟨by first | rfl | (simp; done) | (simp [*]; done), by repeat (first | exact Drawn0.refl _ | apply Drawn0.step)⟩
              · rw [if_neg c7] at H
                exact absurd H (by simp)
            · rw [if_neg c6] at H
              exact absurd H (by simp)
          · replace c5 := Bool.eq_false_iff.mpr c5
            subst c5
            have H1 : (some x5_1) = some r := by rw [if_neg (show ¬ (false = true) by decide)] at H; exact H
            clear H
            have H := H1
            clear H1
            obtain rfl := Option.some.inj H
            go_wp2
            go_ret
            exact ⟨by first | rfl | (simp; done) | (simp [*]; done), by repeat (first | exact Drawn0.refl _ | apply Drawn0.step)⟩
end Go.Proofs.Ytlhhhlimjajnlaa.Q
end
