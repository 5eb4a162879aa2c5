/- Parts of the proof of canonSpoilt_holds, kept and merged by a program of mine (wip/tools/slim.py) out of my texts: StrE Q7 -/
import Derived.Test.YtlhhhlimjajnlaaGreatSSp0
import Derived.Test.YtlhhhlimjajnlaaGreatSSp7
import Derived.Test.YtlhhhlimjajnlaaGreatSSp1
import Derived.Test.YtlhhhlimjajnlaaGreatSSp4
section
set_option linter.unusedVariables false
set_option linter.unusedSimpArgs false
namespace Go.Proofs.YtlhhhlimjajnlaaGreat.X
open Go.RowKit Go.Proofs.YtlhhhlimjajnlaaGreatW.PrintWords
def strings_Cut.f (a0 a1 : ByteArray) : Option (ByteArray × ByteArray × Bool) :=
 if a0.size < 4294967281 ∧ a1.size = 1 then some (⟨(Lib.cut a0.data.toList a1.data.toList).1.toArray⟩, ⟨(Lib.cut a0.data.toList a1.data.toList).2.1.toArray⟩, (Lib.cut a0.data.toList a1.data.toList).2.2) else none
theorem strings_Cut.calls (a0 a1 : ByteArray) (r1 r2 : ByteArray) (r3 : Bool) (w : World) (h : strings_Cut.f a0 a1 = some (r1, r2, r3)) :
 Calls Tryz.prog 109 #[.string a0, .string a1] w fun e w' => e = .returned (.tuple #[.string r1, .string r2, .bool r3]) ∧ Drawn0 w w' := by
 unfold strings_Cut.f at h
 split at h
 ·rename_i hs
  obtain ⟨hs, h1⟩ := hs
  simp only [Option.some.injEq, Prod.mk.injEq] at h
  obtain ⟨rfl, rfl, rfl⟩ := h
  obtain ⟨⟨l⟩⟩ := a1
  match l, h1 with
  | [c], _ =>
   refine (cut_one a0 c w hs).mono ?_
   rintro e w' ⟨rfl, n, rfl⟩
   exact ⟨rfl, ⟨⟨n, rfl⟩⟩⟩
 ·cases h
def strings_IndexByte.f (a0 : ByteArray) (a1 : Int) : Option Int := some (Lib.indexByte a0.data.toList a1.toNat.toUInt8)
theorem strings_IndexByte.calls (a0 : ByteArray) (a1 : Int) (r : Int) (w : World) (h : strings_IndexByte.f a0 a1 = some r) :
 Calls Tryz.prog 112 #[.string a0, .int .u8 a1] w fun e w' => e = .returned (.int .i64 r) ∧ Drawn0 w w' := by
 obtain rfl := Option.some.inj h
 refine (Tryz.strings_IndexByte a0 a1 w).mono ?_
 rintro e w' ⟨rfl, rfl⟩
 exact ⟨rfl, Drawn0.refl _⟩
end Go.Proofs.YtlhhhlimjajnlaaGreat.X
end
section
namespace Go.Proofs.YtlhhhlimjajnlaaGreat.X
end Go.Proofs.YtlhhhlimjajnlaaGreat.X
namespace Go.Proofs.YtlhhhlimjajnlaaGreat.Q
open Go.RowKit Go.Proofs.YtlhhhlimjajnlaaGreatW.PrintWords Go.Proofs.YtlhhhlimjajnlaaGreatW.PrintLast Go.Proofs.YtlhhhlimjajnlaaGreatW.PrintMore
attribute [local go_sem] max2_int min2_int max_two min_two max_three min_three max_four min_four   
open Go.Proofs.YtlhhhlimjajnlaaGreat.X
set_option linter.unusedVariables false
set_option linter.unusedSimpArgs false
def chars_digit.f (a0 : Int) : Option (Int) := if a0 ≥ 65 then (if a0 ≤ 70 then ((strings_IndexByte.f (⟨#[48, 49, 50, 51, 52, 53, 54, 55, 56, 57, 97, 98, 99, 100, 101, 102]⟩ : ByteArray) ((a0 + 32) % 256)).bind fun t118 => (some t118)) else ((strings_IndexByte.f (⟨#[48, 49, 50, 51, 52, 53, 54, 55, 56, 57, 97, 98, 99, 100, 101, 102]⟩ : ByteArray) a0).bind fun t119 => (some t119))) else ((strings_IndexByte.f (⟨#[48, 49, 50, 51, 52, 53, 54, 55, 56, 57, 97, 98, 99, 100, 101, 102]⟩ : ByteArray) a0).bind fun t120 => (some t120))
set_option maxHeartbeats 8000000 in
set_option maxRecDepth 100000 in
theorem chars_digit.calls (a0 : Int) (r : Int) (w : World) (h : chars_digit.f a0 = some r) :
 Calls Tryz.prog 154 #[.int .u8 a0] w fun e w' => e = .returned (.int .i64 r) ∧ Drawn0 w w' := by
 have H : (if a0 ≥ 65 then (if a0 ≤ 70 then ((strings_IndexByte.f (⟨#[48, 49, 50, 51, 52, 53, 54, 55, 56, 57, 97, 98, 99, 100, 101, 102]⟩ : ByteArray) ((a0 + 32) % 256)).bind fun t118 => (some t118)) else ((strings_IndexByte.f (⟨#[48, 49, 50, 51, 52, 53, 54, 55, 56, 57, 97, 98, 99, 100, 101, 102]⟩ : ByteArray) a0).bind fun t119 => (some t119))) else ((strings_IndexByte.f (⟨#[48, 49, 50, 51, 52, 53, 54, 55, 56, 57, 97, 98, 99, 100, 101, 102]⟩ : ByteArray) a0).bind fun t120 => (some t120))) = some r := h
 clear h
 revert H; refine X.ite_d (c := 65 ≤ a0) (fun c2b0 H => ?_) (fun c2b0 H => ?_)
 revert H; refine X.ite_d (fun c3b0 H => ?_) (fun c3b0 H => ?_)
 replace H := Option.bind_eq_some_iff.mp H
 obtain ⟨t118, A40, H⟩ := H
 have A4 := Aside0.mk A40
 clear A40
 rotate_left
 replace H := Option.bind_eq_some_iff.mp H
 obtain ⟨t119, A50, H⟩ := H
 have A5 := Aside0.mk A50
 clear A50
 rotate_left
 ·replace H := Option.bind_eq_some_iff.mp H
  obtain ⟨t120, A60, H⟩ := H
  have A6 := Aside0.mk A60
  clear A60
  obtain rfl := Option.some.inj H
  go_enter Tryz.func154, Tryz.ntmps154
  go_wp2_with ((((with_reducible refine gate_callee (f := 112) rfl ?_); refine goesL_ (some 12) rfl rfl Tryz.func112 (by kernel_rfl) rfl #[.string (⟨#[48, 49, 50, 51, 52, 53, 54, 55, 56, 57, 97, 98, 99, 100, 101, 102]⟩ : ByteArray), .int .u8 a0] rfl (zz3) ?_; (with_reducible refine (strings_IndexByte.calls (⟨#[48, 49, 50, 51, 52, 53, 54, 55, 56, 57, 97, 98, 99, 100, 101, 102]⟩ : ByteArray) a0 t120 _ A6.out).mono ?_); rintro e w' ⟨rfl, ⟨nd, rfl⟩⟩; refine ⟨_, rfl, ?_⟩)))
  go_ret
  exact ⟨by rfl, zz1⟩
 all_goals
  obtain rfl := Option.some.inj H
  go_enter Tryz.func154, Tryz.ntmps154
  go_wp2_with (first | ((with_reducible refine gate_callee (f := 112) rfl ?_); refine goesL_ (some 12) rfl rfl Tryz.func112 (by kernel_rfl) rfl #[.string (⟨#[48, 49, 50, 51, 52, 53, 54, 55, 56, 57, 97, 98, 99, 100, 101, 102]⟩ : ByteArray), .int .u8 ((a0 + 32) % 256)] rfl (zz3) ?_; (with_reducible refine (strings_IndexByte.calls (⟨#[48, 49, 50, 51, 52, 53, 54, 55, 56, 57, 97, 98, 99, 100, 101, 102]⟩ : ByteArray) ((a0 + 32) % 256) t118 _ A4.out).mono ?_); rintro e w' ⟨rfl, ⟨nd, rfl⟩⟩; refine ⟨_, rfl, ?_⟩) | ((with_reducible refine gate_callee (f := 112) rfl ?_); refine goesL_ (some 12) rfl rfl Tryz.func112 (by kernel_rfl) rfl #[.string (⟨#[48, 49, 50, 51, 52, 53, 54, 55, 56, 57, 97, 98, 99, 100, 101, 102]⟩ : ByteArray), .int .u8 a0] rfl (zz3) ?_; (with_reducible refine (strings_IndexByte.calls (⟨#[48, 49, 50, 51, 52, 53, 54, 55, 56, 57, 97, 98, 99, 100, 101, 102]⟩ : ByteArray) a0 t119 _ A5.out).mono ?_); rintro e w' ⟨rfl, ⟨nd, rfl⟩⟩; refine ⟨_, rfl, ?_⟩))
  go_ret
  exact ⟨by rfl, zz1⟩
def chars_lead.f (a0 : Int) : Option (Int) := if a0 = 1 then (some 0) else (if 0 ≤ (wrap64 (8 - a0)) then (some (Go.bits .and .i64 (shl .i64 255 (wrap64 (8 - a0))) 255)) else (none))
set_option maxHeartbeats 8000000 in
set_option maxRecDepth 100000 in
theorem chars_lead.calls (a0 : Int) (r : Int) (w : World) (h : chars_lead.f a0 = some r) :
 Calls Tryz.prog 99 #[.int .i64 a0] w fun e w' => e = .returned (.int .i64 r) ∧ Drawn0 w w' := by
 have H : (if a0 = 1 then (some 0) else (if 0 ≤ (wrap64 (8 - a0)) then (some (Go.bits .and .i64 (shl .i64 255 (wrap64 (8 - a0))) 255)) else (none))) = some r := h
 clear h
 revert H; refine X.ite_b (fun c2b0 c2b1 H => ?_) (fun c2b0 c2b1 H => ?_)
 rotate_left
 obtain ⟨ji3, hji3⟩ : ∃ j_ : Int, (wrap64 (8 - a0)) = j_ := ⟨_, rfl⟩
 replace H : (if 0 ≤ (ji3) then (some (Go.bits .and .i64 (shl .i64 255 (ji3)) 255)) else (none)) = some r := by ((rw [hji3] at H; exact H))
 have hji3w : (IntKind.i64.wrap (8 - a0)) = ji3 := (i64_w _).trans hji3
 by_cases c4 : 0 ≤ (ji3)
 rw [if_pos c4] at H
 have c4b0 := eq_true c4
 have c4b1 : decide (0 ≤ (ji3)) = true := decide_eq_true c4
 clear c4
 obtain ⟨ji5, hji5⟩ : ∃ j_ : Int, (shl .i64 255 (ji3)) = j_ := ⟨_, rfl⟩
 replace H : (some (Go.bits .and .i64 (ji5) 255)) = some r := by ((rw [hji5] at H; exact H))
 have hji5_ : (IntKind.i64.wrap (255 * 2 ^ min (ji3).toNat 64)) = ji5 := hji5
 have hji5z : (ji3) ≤ 64 → (IntKind.i64.wrap (255 * 2 ^ (ji3).toNat)) = ji5 := shl_small hji5
 have hji5y : (wrap64 (255 * 2 ^ min (ji3).toNat 64)) = ji5 := (i64_w _).symm.trans hji5_
 have hji5x : (ji3) ≤ 64 → (wrap64 (255 * 2 ^ (ji3).toNat)) = ji5 := fun h_ => (i64_w _).symm.trans (hji5z h_)
 rotate_left
 ·rw [if_neg c4] at H
  exact absurd H (by simp)
 all_goals
  obtain rfl := Option.some.inj H
  go_enter Tryz.func99, Tryz.ntmps99
  go_wp2
  go_ret
  (exact ⟨by rfl, by repeat (exact Drawn0.refl _)⟩)
def chars_size.f (a0 : Int) : Option (Int) := if a0 < 128 then (some 1) else (if a0 < 2048 then (some 2) else (if a0 < 65536 then (some 3) else (some 4)))
set_option maxHeartbeats 8000000 in
set_option maxRecDepth 100000 in
theorem chars_size.calls (a0 : Int) (r : Int) (w : World) (h : chars_size.f a0 = some r) :
 Calls Tryz.prog 101 #[.int .i64 a0] w fun e w' => e = .returned (.int .i64 r) ∧ Drawn0 w w' := by
 have H : (if a0 < 128 then (some 1) else (if a0 < 2048 then (some 2) else (if a0 < 65536 then (some 3) else (some 4)))) = some r := h
 clear h
 revert H; refine X.ite_d (fun c2b0 H => ?_) (fun c2b0 H => ?_)
 rotate_left
 revert H; refine X.ite_d (fun c3b0 H => ?_) (fun c3b0 H => ?_)
 rotate_left
 revert H; refine X.ite_d (fun c4b0 H => ?_) (fun c4b0 H => ?_)
 rotate_left
 ·obtain rfl := Option.some.inj H
  go_enter Tryz.func101, Tryz.ntmps101
  go_wp2
  go_ret
  exact zz17
 all_goals
  obtain rfl := Option.some.inj H
  go_enter Tryz.func101, Tryz.ntmps101
  go_wp2
  go_ret
  exact zz17
def chars_Encode.l0 : Nat → Int → Int → List Int → Int → Option (ByteArray)
 | 0, _, _, _, _ => none
 | k + 1, x0, x3, x4, x5 => if x5 > 0 then (if 0 ≤ x5 then (if x5 < (x4.length : Int) then (chars_Encode.l0 k (x0 / 64) x3 (x4.set (x5 : Int).toNat ((Go.bits .or .i64 128 (Go.bits .and .i64 x0 63)) % 256)) (wrap64 (x5 - 1))) else (none)) else (none)) else ((chars_lead.f x3).bind fun t127 => (if 0 < (x4.length : Int) then (some (strOfNums (x4.set (0 : Int).toNat ((Go.bits .or .i64 t127 x0) % 256)))) else (none)))
def chars_Encode.f (k : Nat) (a0 : Int) : Option (ByteArray) := (chars_point.f a0).bind fun t121 => (if t121 = true then ((chars_size.f a0).bind fun t122 => (if 0 ≤ t122 then (if (t122 : Int).toNat ≤ 281474976710656 then (chars_Encode.l0 k a0 t122 (List.replicate (t122 : Int).toNat 0) (wrap64 (t122 - 1))) else (none)) else (none))) else (some (⟨#[]⟩ : ByteArray)))
set_option maxHeartbeats 8000000 in
set_option maxRecDepth 100000 in
theorem chars_Encode.calls (k : Nat) (a0 : Int) (r : ByteArray) (w : World) (h : chars_Encode.f k a0 = some r) :
 Calls Tryz.prog 155 #[.int .i64 a0] w fun e w' => e = .returned (.string r) ∧ Below w.heap.size w w' := by
 have HB := Aside0.mk (Below.refl w.heap.size w)
 have H : ((chars_point.f a0).bind fun t121 => (if t121 = true then ((chars_size.f a0).bind fun t122 => (if 0 ≤ t122 then (if (t122 : Int).toNat ≤ 281474976710656 then (chars_Encode.l0 k a0 t122 (List.replicate (t122 : Int).toNat 0) (wrap64 (t122 - 1))) else (none)) else (none))) else (some (⟨#[]⟩ : ByteArray)))) = some r := h
 clear h
 replace H := Option.bind_eq_some_iff.mp H
 obtain ⟨t121, A20, H⟩ := H
 have A2 := Aside0.mk A20
 clear A20
 by_cases c3 : t121 = true
 ·subst c3
  rw [if_pos rfl] at H
  replace H := Option.bind_eq_some_iff.mp H
  obtain ⟨t122, A40, H⟩ := H
  have A4 := Aside0.mk A40
  clear A40
  by_cases c5 : 0 ≤ t122
  ·rw [if_pos c5] at H
   have c5b0 := eq_true c5
   have c5b1 : decide (0 ≤ t122) = true := decide_eq_true c5
   clear c5
   by_cases c6 : (t122 : Int).toNat ≤ 281474976710656
   ·rw [if_pos c6] at H
    have c6b0 := eq_true c6
    have c6b1 : decide ((t122 : Int).toNat ≤ 281474976710656) = true := decide_eq_true c6
    clear c6
    obtain ⟨y123, hy123⟩ : ∃ y_ : List Int, y_ = (List.replicate (t122 : Int).toNat 0) := ⟨_, rfl⟩
    replace H : (chars_Encode.l0 k a0 t122 y123 (wrap64 (t122 - 1))) = some r := by ((rw [hy123]; with_reducible exact H))
    have Ny123 := Aside0.mk hy123
    clear hy123
    have H' := Aside0.mk H
    clear H
    go_enter Tryz.func155, Tryz.ntmps155
    go_wp2_with (first | ((with_reducible refine gate_callee (f := 100) rfl ?_); refine goesL_ (some 7) rfl rfl Tryz.func100 (by kernel_rfl) rfl #[.int .i64 a0] rfl (zz3) ?_; (with_reducible refine (chars_point.calls a0 true _ A2.out).mono ?_); rintro e w' ⟨rfl, ⟨nd, rfl⟩⟩; refine ⟨_, rfl, ?_⟩) | ((with_reducible refine gate_callee (f := 101) rfl ?_); refine goesL_ (some 10) rfl rfl Tryz.func101 (by kernel_rfl) rfl #[.int .i64 a0] rfl (zz3) ?_; (with_reducible refine (chars_size.calls a0 t122 _ A4.out).mono ?_); rintro e w' ⟨rfl, ⟨nd, rfl⟩⟩; refine ⟨_, rfl, ?_⟩) | ((with_reducible refine gate_dst (N := 12) rfl ?_); refine Kd.R_make (Kd.int .u8) _ 5 rfl (N := 12) rfl 63 _ _ rfl t122 rfl rfl Tryz.underlying63 (.int .u8 0) 1 info5 rfl (by decide) (by omega) 0 (ok := fun _ => True) (okp := fun _ => True) rfl (fun _ hk => hk) trivial (of_decide_eq_true (zz13)) (Nat.le_trans (Nat.mul_le_mul_right _ (of_decide_eq_true (zz13) : t122.toNat ≤ 281474976710656)) (by omega)) (Below.refl _ _) (Nat.le_refl _) ?_; intro v124 w7 ho8 hb hg_ hnew_; clear hg_ hnew_; (rw [← Ny123.out] at ho8); have n0_ := Aside0.mk (Kd.R_lower ho8 (below_size (zz6))); have n1_ := Aside0.mk (below_step (zz6) hb); clear HB; have HO125 := n0_; have HB := n1_; clear n0_ n1_; clear hb ho8))
    go_loopg [0, 5] k (fun kq v0 v5 w' => ∃ (x0_1 : Int) (x4_1 : List Int) (x5_1 : Int), v0 = .int .i64 x0_1 ∧ v5 = .int .i64 x5_1 ∧ Aside0 (chars_Encode.l0 kq x0_1 t122 x4_1 x5_1 = some r) ∧ Aside0 (kq ≤ k) ∧ Aside0 (Kd.R (Kd.int .u8) 5 w' w.heap.size (fun _ => True) v124 x4_1) ∧ Aside0 (Below w.heap.size w w'))
    case atStart => exact ⟨(a0), (y123), (wrap64 (t122 - 1)), (by rfl), (by rfl), H', ⟨Nat.le_refl _⟩, ⟨by (with_reducible repeat (first | apply Kd.R_alloc | apply Kd.R_drewN | apply Kd.R_drew)); exact HO125.out⟩, ⟨zz7⟩⟩
    case round =>
     clear H'
     clear c5b0
     clear c5b1
     clear c6b0
     clear c6b1
     obtain ⟨x0_1, x4_1, x5_1, rfl, rfl, HA, HK1, HO_4, HB⟩ := hrel
     cases gk with
     | zero => exact absurd HA.out (by simp [chars_Encode.l0])
     | succ k1 =>
      have H := HA.out
      clear HA
      simp only [chars_Encode.l0] at H
      by_cases c9 : x5_1 > 0
      ·rw [if_pos c9] at H
       have c9b0 : decide (0 < x5_1) = true := decide_eq_true c9
       clear c9
       by_cases c10 : 0 ≤ x5_1
       ·rw [if_pos c10] at H
        have c10b0 : decide (0 ≤ x5_1) = true := decide_eq_true c10
        clear c10
        by_cases c11 : x5_1 < (x4_1.length : Int)
        ·rw [if_pos c11] at H
         have c11b0 : decide (x5_1 < (x4_1.length : Int)) = true := decide_eq_true c11
         clear c11
         obtain ⟨y126, hy126⟩ : ∃ y_ : List Int, y_ = (x4_1.set (x5_1 : Int).toNat ((Go.bits .or .i64 128 (Go.bits .and .i64 x0_1 63)) % 256)) := ⟨_, rfl⟩
         replace H : (chars_Encode.l0 k1 (x0_1 / 64) t122 y126 (wrap64 (x5_1 - 1))) = some r := by ((rw [hy126]; with_reducible exact H))
         have Ny126 := Aside0.mk hy126
         clear hy126
         have H' := Aside0.mk H
         clear H
         have p12 : 0 ≤ (x5_1 : Int) := of_decide_eq_true (zz13)
         have q12 : (x5_1 : Int) < ((x4_1.length : Int) : Int) := of_decide_eq_true (zz13)
         obtain ⟨go12, co12, eo12, gb12, gl12, cl12, HG12⟩ := Kd.R_form HO_4.out (by omega)
         (cases eo12)
         have GB12 := Aside0.mk gb12
         have GG12 := Aside0.mk HG12
         clear gb12 gl12 HG12
         obtain ⟨hx12_0, hf12_0⟩ := Kd.R_celln 0 HO_4.out (x5_1 : Int) p12 q12
         replace p12 := eq_true p12
         replace q12 := eq_true q12
         have HP13 := Kd.R_putg HO_4.out (x5_1 : Int) ((Go.bits .or .i64 128 (Go.bits .and .i64 x0_1 63)) % 256)
         go_wp2_with ((((with_reducible refine gate_store (t := 5) (p := 25) rfl ?_); refine store_event (t := 5) (p := 25) (v := ?vo_w14) (w1 := (wr.setCell ⟨go12, (x5_1 : Int).toNat, none⟩ (.int .u8 ((Go.bits .or .i64 128 (Go.bits .and .i64 x0_1 63)) % 256)))) ?hg ?ho ?hn ?hr ?_; (case ho => rfl); (case hg => rfl); (case hn => rfl); (case hr => ((go_simp; done))); intro w14 hw; have hg : wr.grownBy w14 (some go12) := (by rw [hw]; exact HP13.2); have hp_ : Kd.R (Kd.int .u8) 5 w14 w.heap.size (fun _ => True) (.slice (some ⟨go12, 0, none⟩) x4_1.length co12) y126 := (by rw [hw, Ny126.out]; exact HP13.1); clear HP13; have n0_ := Aside0.mk (hp_); have n1_ := Aside0.mk ((by rw [hw]; exact below_set (HB.out) GB12.out : Below w.heap.size w w14)); clear HO_4; clear HB; have HO_4 := n0_; have HB := n1_; clear n0_ n1_; clear hg hw hp_)))
         go_roundg k1
         case measure => have := HK1.out; omega
         case rel => exact ⟨(x0_1 / 64), (y126), (wrap64 (x5_1 - 1)), (by rfl), (by rfl), H', ⟨zz36⟩, ⟨by (with_reducible repeat (first | apply Kd.R_alloc | apply Kd.R_drewN | apply Kd.R_drew)); exact HO_4.out⟩, ⟨zz7⟩⟩
        ·rw [if_neg c11] at H
         exact absurd H (by simp)
       ·rw [if_neg c10] at H
        exact absurd H (by simp)
      ·rw [if_neg c9] at H
       have c9b0 : decide (0 < x5_1) = false := decide_eq_false c9
       clear c9
       replace H := Option.bind_eq_some_iff.mp H
       obtain ⟨t127, A150, H⟩ := H
       have A15 := Aside0.mk A150
       clear A150
       by_cases c16 : 0 < (x4_1.length : Int)
       ·rw [if_pos c16] at H
        have c16b0 : decide (0 < (x4_1.length : Int)) = true := decide_eq_true c16
        have c16b1 : decide (0 < x4_1.length) = true := decide_eq_true (by omega)
        clear c16
        obtain ⟨y128, hy128⟩ : ∃ y_ : List Int, y_ = (x4_1.set (0 : Int).toNat ((Go.bits .or .i64 t127 x0_1) % 256)) := ⟨_, rfl⟩
        replace H : (some (strOfNums y128)) = some r := by ((rw [hy128]; with_reducible exact H))
        have Ny128 := Aside0.mk hy128
        clear hy128
        obtain rfl := Option.some.inj H
        go_wp2_with (first | ((with_reducible refine gate_callee (f := 99) rfl ?_); refine goesL_ (some 30) rfl rfl Tryz.func99 (by kernel_rfl) rfl #[.int .i64 t122] rfl (zz3) ?_; (with_reducible refine (chars_lead.calls t122 t127 _ A15.out).mono ?_); rintro e w' ⟨rfl, ⟨nd, rfl⟩⟩; refine ⟨_, rfl, ?_⟩; (((rw [drewN_self wr]; generalize hq_ : World.drewN wr _ = wr; have n0_ : Aside0 (Kd.R (Kd.int .u8) 5 wr w.heap.size (fun _ => True) v124 x4_1) := ⟨by rw [← hq_]; exact (by (with_reducible repeat (apply Kd.R_drewN)); exact HO_4.out)⟩; have n1_ : Aside0 (Below w.heap.size w wr) := ⟨by rw [← hq_]; exact (zz6)⟩; clear HO_4 HB hq_; have HO_4 := n0_; have HB := n1_; clear n0_ n1_))); have p17 : 0 ≤ (0 : Int) := (by omega); have q17 : (0 : Int) < ((x4_1.length : Int) : Int) := of_decide_eq_true (zz13); have qi17 : (0 < x4_1.length) = True := eq_true (by omega); obtain ⟨go17, co17, eo17, gb17, gl17, cl17, HG17⟩ := Kd.R_form HO_4.out (by omega); (cases eo17); have GB17 := Aside0.mk gb17; have GG17 := Aside0.mk HG17; clear gb17 gl17 HG17; obtain ⟨hx17_0, hf17_0⟩ := Kd.R_celln 0 HO_4.out (0 : Int) p17 q17; (rw [show ((0 : Int)).toNat = 0 from rfl] at hx17_0); (rw [show ((0 : Int)).toNat = 0 from rfl] at hf17_0); replace p17 := eq_true p17; replace q17 := eq_true q17; obtain ⟨hy18_, hz18_⟩ := Kd.R_celln 0 HO_4.out (0 : Int) (by omega) (of_decide_eq_true (zz13)); (rw [show ((0 : Int)).toNat = 0 from rfl] at hy18_); (rw [show ((0 : Int)).toNat = 0 from rfl] at hz18_); have HP18 := Kd.R_putg HO_4.out (0 : Int) ((Go.bits .or .i64 t127 x0_1) % 256)) | ((with_reducible refine gate_store (t := 5) (p := 34) rfl ?_); refine store_event (t := 5) (p := 34) (v := ?vo_w19) (w1 := (wr.setCell ⟨go17, (0 : Int).toNat, none⟩ (.int .u8 ((Go.bits .or .i64 t127 x0_1) % 256)))) ?hg ?ho ?hn ?hr ?_; (case ho => rfl); (case hg => rfl); (case hn => rfl); (case hr => ((go_simp; done))); intro w19 hw; have hg : wr.grownBy w19 (some go17) := (by rw [hw]; exact HP18.2); have hp_ : Kd.R (Kd.int .u8) 5 w19 w.heap.size (fun _ => True) (.slice (some ⟨go17, 0, none⟩) x4_1.length co17) y128 := (by rw [hw, Ny128.out]; exact HP18.1); clear HP18; have n0_ := Aside0.mk (hp_); have n1_ := Aside0.mk ((by rw [hw]; exact below_set (HB.out) GB17.out : Below w.heap.size w w19)); clear HO_4; clear HB; have HO_4 := n0_; have HB := n1_; clear n0_ n1_; clear hg hw hp_; have hcv20 := own_string (P := Tryz.prog) Tryz.underlying63 Tryz.underlying5 Tryz.underlying9 (Kd.own_of_R HO_4.out)))
        go_ret
        exact ⟨by rfl, zz7⟩
       ·rw [if_neg c16] at H
        exact absurd H (by simp)
   ·rw [if_neg c6] at H
    exact absurd H (by simp)
  ·rw [if_neg c5] at H
   exact absurd H (by simp)
 ·replace c3 := Bool.eq_false_iff.mpr c3
  subst c3
  rw [if_neg (show ¬ (false = true) by decide)] at H
  obtain rfl := Option.some.inj H
  go_enter Tryz.func155, Tryz.ntmps155
  go_wp2_with ((((with_reducible refine gate_callee (f := 100) rfl ?_); refine goesL_ (some 7) rfl rfl Tryz.func100 (by kernel_rfl) rfl #[.int .i64 a0] rfl (zz3) ?_; (with_reducible refine (chars_point.calls a0 false _ A2.out).mono ?_); rintro e w' ⟨rfl, ⟨nd, rfl⟩⟩; refine ⟨_, rfl, ?_⟩)))
  go_ret
  exact ⟨by rfl, zz6⟩
mutual
def chars_numbered.j0 : Nat → ByteArray → Int → Bool → Option (ByteArray)
 | 0, _, _, _ => none
 | k + 1, x0, x1, x14 => if x14 = true then (some (⟨#[]⟩ : ByteArray)) else (chars_numbered.l0 k x0 x1 0 (x0.size : Int) 0)
def chars_numbered.l0 : Nat → ByteArray → Int → Int → Int → Int → Option (ByteArray)
 | 0, _, _, _, _, _ => none
 | k + 1, x0, x1, x5, x16, x17 => if x17 < x16 then (if 0 ≤ x17 then (if x17 < (x0.size : Int) then ((chars_digit.f (bt x0 x17)).bind fun t129 => (if t129 < 0 then (some (⟨#[]⟩ : ByteArray)) else (if t129 ≥ x1 then (some (⟨#[]⟩ : ByteArray)) else (chars_numbered.l0 k x0 x1 (wrap64 ((wrap64 (x5 * x1)) + t129)) x16 (wrap64 (x17 + 1)))))) else (none)) else (none)) else ((chars_Allowed.f k x5).bind fun t130 => (if t130 = true then ((chars_Encode.f k x5).bind fun t131 => (some t131)) else (some (⟨#[]⟩ : ByteArray))))
end
def chars_numbered.f (k : Nat) (a0 : ByteArray) (a1 : Int) : Option (ByteArray) := if a0.toList = ([] : List UInt8) then (chars_numbered.j0 k a0 a1 true) else (chars_numbered.j0 k a0 a1 (decide ((a0.size : Int) > 8)))
set_option maxHeartbeats 8000000 in
set_option maxRecDepth 100000 in
theorem chars_numbered.calls (k : Nat) (a0 : ByteArray) (a1 : Int) (r : ByteArray) (w : World) (h : chars_numbered.f k a0 a1 = some r) :
 Calls Tryz.prog 144 #[.string a0, .int .i64 a1] w fun e w' => e = .returned (.string r) ∧ Below w.heap.size w w' := by
 have HB := Aside0.mk (Below.refl w.heap.size w)
 have H : (if a0.toList = ([] : List UInt8) then (chars_numbered.j0 k a0 a1 true) else (chars_numbered.j0 k a0 a1 (decide ((a0.size : Int) > 8)))) = some r := h
 clear h
 have HC3 := Aside0.mk H
 clear H
 go_enter Tryz.func144, Tryz.ntmps144
 go_upto_region 1 with (fail)
 go_cut [14] (fun v14 wc => ∃ (kq : Nat) (x14_2 : Bool), v14 = .bool x14_2 ∧ Aside0 (chars_numbered.j0 kq a0 a1 x14_2 = some r) ∧ Aside0 (kq ≤ k) ∧ Aside0 (Below w.heap.size w wc))
 case first =>
  have H := HC3.out
  clear HC3
  revert H; refine X.ite_b (fun c4b0 c4b1 H => ?_) (fun c4b0 c4b1 H => ?_)
  rotate_left
  rotate_left
  all_goals
   have H' := Aside0.mk H
   clear H
   go_wp2
   go_meet
   case rel => first | (exact ⟨_, (true), (by rfl), H', ⟨by first | omega | exact Nat.le_refl _⟩, ⟨zz7⟩⟩) | (exact ⟨_, (decide ((a0.size : Int) > 8)), (by rfl), H', ⟨by omega⟩, ⟨zz7⟩⟩)
 case rest =>
  clear HC3
  obtain ⟨kq, x14_2, rfl, HA, HJ2, HB⟩ := hcut
  cases kq with
  | zero => exact absurd HA.out (by simp [chars_numbered.j0])
  | succ kj2 =>
   have H := HA.out
   clear HA
   simp only [chars_numbered.j0] at H
   by_cases c5 : x14_2 = true
   ·subst c5
    rw [if_pos rfl] at H
    obtain rfl := Option.some.inj H
    go_wp2
    go_ret
    exact ⟨by rfl, zz7⟩
   ·replace c5 := Bool.eq_false_iff.mpr c5
    subst c5
    rw [if_neg (show ¬ (false = true) by decide)] at H
    have H' := Aside0.mk H
    clear H
    go_wp2
    go_loopg [5, 17] kj2 (fun kq v5 v17 w' => ∃ (x5_2 : Int) (x17_2 : Int), v5 = .int .i64 x5_2 ∧ v17 = .int .i64 x17_2 ∧ Aside0 (chars_numbered.l0 kq a0 a1 x5_2 (a0.size : Int) x17_2 = some r) ∧ Aside0 (kq ≤ kj2) ∧ Aside0 (Below w.heap.size w w'))
    case atStart => exact ⟨(0), (0), (by rfl), (by rfl), H', ⟨Nat.le_refl _⟩, ⟨zz7⟩⟩
    case round =>
     clear H'
     obtain ⟨x5_2, x17_2, rfl, rfl, HA, HK2, HB⟩ := hrel
     cases gk with
     | zero => exact absurd HA.out (by simp [chars_numbered.l0])
     | succ k2 =>
      have H := HA.out
      clear HA
      simp only [chars_numbered.l0] at H
      revert H; refine X.ite_d (fun c6b0 H => ?_) (fun c6b0 H => ?_)
      by_cases c7 : 0 ≤ x17_2
      rw [if_pos c7] at H
      have c7b0 : decide (0 ≤ x17_2) = true := decide_eq_true c7
      clear c7
      by_cases c8 : x17_2 < (a0.size : Int)
      rw [if_pos c8] at H
      have c8b0 : decide (x17_2 < (a0.size : Int)) = true := decide_eq_true c8
      clear c8
      replace H := Option.bind_eq_some_iff.mp H
      obtain ⟨t129, A100, H⟩ := H
      have A10 := Aside0.mk A100
      clear A100
      revert H; refine X.ite_d (fun c11b0 H => ?_) (fun c11b0 H => ?_)
      rotate_left
      revert H; refine X.ite_d (c := a1 ≤ t129) (fun c12b0 H => ?_) (fun c12b0 H => ?_)
      rotate_left
      rotate_left
      ·rw [if_neg c8] at H
       exact absurd H (by simp)
      ·rw [if_neg c7] at H
       exact absurd H (by simp)
      replace H := Option.bind_eq_some_iff.mp H
      obtain ⟨t130, A130, H⟩ := H
      have A13 := Aside0.mk A130
      clear A130
      by_cases c14 : t130 = true
      subst c14
      rw [if_pos rfl] at H
      replace H := Option.bind_eq_some_iff.mp H
      obtain ⟨t131, A150, H⟩ := H
      have A15 := Aside0.mk A150
      clear A150
      rotate_left
      ·replace c14 := Bool.eq_false_iff.mpr c14
       subst c14
       rw [if_neg (show ¬ (false = true) by decide)] at H
       obtain rfl := Option.some.inj H
       go_wp2_with ((((with_reducible refine gate_callee (f := 74) rfl ?_); refine goesL_ (some 38) rfl rfl Tryz.func74 (by kernel_rfl) rfl #[.int .i64 x5_2] rfl (zz3) ?_; (with_reducible refine (chars_Allowed.calls k2 x5_2 false _ A13.out).mono ?_); rintro e w' ⟨rfl, ⟨nd, rfl⟩⟩; refine ⟨_, rfl, ?_⟩)))
       go_ret
       exact ⟨by rfl, zz6⟩
      all_goals first
      | (obtain rfl := Option.some.inj H
         have pz1 : 0 ≤ (x17_2 : Int) := of_decide_eq_true (zz13)
         have qz1 : x17_2 < (a0.size : Int) := of_decide_eq_true (zz13)
         have hxz1 := bt_at a0 x17_2
         replace pz1 := eq_true pz1
         replace qz1 := eq_true qz1
         go_wp2_with ((((with_reducible refine gate_callee (f := 154) rfl ?_); refine goesL_ (some 23) rfl rfl Tryz.func154 (by kernel_rfl) rfl #[.int .u8 (bt a0 x17_2)] rfl (zz3) ?_; (with_reducible refine (chars_digit.calls (bt a0 x17_2) t129 _ A10.out).mono ?_); rintro e w' ⟨rfl, ⟨nd, rfl⟩⟩; refine ⟨_, rfl, ?_⟩)))
         go_ret
         exact ⟨by rfl, zz6⟩)
      | (have H' := Aside0.mk H
         clear H
         have pz1 : 0 ≤ (x17_2 : Int) := of_decide_eq_true (zz13)
         have qz1 : x17_2 < (a0.size : Int) := of_decide_eq_true (zz13)
         have hxz1 := bt_at a0 x17_2
         replace pz1 := eq_true pz1
         replace qz1 := eq_true qz1
         go_wp2_with ((((with_reducible refine gate_callee (f := 154) rfl ?_); refine goesL_ (some 23) rfl rfl Tryz.func154 (by kernel_rfl) rfl #[.int .u8 (bt a0 x17_2)] rfl (zz3) ?_; (with_reducible refine (chars_digit.calls (bt a0 x17_2) t129 _ A10.out).mono ?_); rintro e w' ⟨rfl, ⟨nd, rfl⟩⟩; refine ⟨_, rfl, ?_⟩)))
         go_roundg k2
         case measure => have := HJ2.out; have := HK2.out; omega
         case rel => exact ⟨(wrap64 ((wrap64 (x5_2 * a1)) + t129)), (wrap64 (x17_2 + 1)), (by rfl), (by rfl), H', ⟨by have := HJ2.out; have := HK2.out; omega⟩, ⟨zz6⟩⟩)
      | (obtain rfl := Option.some.inj H
         go_wp2_with (first | ((with_reducible refine gate_callee (f := 74) rfl ?_); refine goesL_ (some 38) rfl rfl Tryz.func74 (by kernel_rfl) rfl #[.int .i64 x5_2] rfl (zz3) ?_; (with_reducible refine (chars_Allowed.calls k2 x5_2 true _ A13.out).mono ?_); rintro e w' ⟨rfl, ⟨nd, rfl⟩⟩; refine ⟨_, rfl, ?_⟩) | ((with_reducible refine gate_callee (f := 155) rfl ?_); refine goesL_ (some 41) rfl rfl Tryz.func155 (by kernel_rfl) rfl #[.int .i64 x5_2] rfl (zz3) ?_; (with_reducible refine (chars_Encode.calls k2 x5_2 t131 _ A15.out).mono ?_); rintro e wz1 ⟨rfl, hb⟩; refine ⟨_, rfl, ?_⟩; have n0_ := Aside0.mk (below_step (zz6) hb); clear HB; have HB := n0_; clear n0_; (clear hb)))
         go_ret
         exact ⟨by rfl, zz7⟩)
def chars_Entity.j0 : Nat → ByteArray → Int → Bool → Option (ByteArray × Int)
 | 0, _, _, _ => none
 | k + 1, x0, x1, x27 => if x27 = true then (some ((⟨#[]⟩ : ByteArray), 0)) else (if 0 ≤ (wrap64 (x1 + 1)) then (if (wrap64 (x1 + 1)) ≤ (x0.size : Int) then ((strings_Cut.f (x0.extract ((wrap64 (x1 + 1)) : Int).toNat x0.size) (⟨#[59]⟩ : ByteArray)).bind fun bt132 => (if bt132.2.2 = true then ((chars_named.f bt132.1).bind fun t135 => ((strings_CutPrefix.f bt132.1 (⟨#[35, 120]⟩ : ByteArray)).bind fun bt136 => ((strings_CutPrefix.f bt132.1 (⟨#[35]⟩ : ByteArray)).bind fun bt138 => (if bt136.2 = true then ((chars_numbered.f k bt136.1 16).bind fun t140 => (if t140.toList = ([] : List UInt8) then (some ((⟨#[]⟩ : ByteArray), 0)) else (some (t140, wrap64 ((bt132.1.size : Int) + 2))))) else (if bt138.2 = true then ((chars_numbered.f k bt138.1 10).bind fun t141 => (if t141.toList = ([] : List UInt8) then (some ((⟨#[]⟩ : ByteArray), 0)) else (some (t141, wrap64 ((bt132.1.size : Int) + 2))))) else (if t135.toList = ([] : List UInt8) then (some ((⟨#[]⟩ : ByteArray), 0)) else (some (t135, wrap64 ((bt132.1.size : Int) + 2))))))))) else (some ((⟨#[]⟩ : ByteArray), 0)))) else (none)) else (none))
def chars_Entity.f (k : Nat) (a0 : ByteArray) (a1 : Int) : Option (ByteArray × Int) := if a1 < 0 then (chars_Entity.j0 k a0 a1 true) else (if a1 ≥ (a0.size : Int) then (chars_Entity.j0 k a0 a1 true) else (if 0 ≤ a1 then (if a1 < (a0.size : Int) then (chars_Entity.j0 k a0 a1 ((bt a0 a1) != 38)) else (none)) else (none)))
set_option maxHeartbeats 8000000 in
set_option maxRecDepth 100000 in
theorem chars_Entity.calls (k : Nat) (a0 : ByteArray) (a1 : Int) (r1 : ByteArray) (r2 : Int) (w : World) (h : chars_Entity.f k a0 a1 = some (r1, r2)) :
 Calls Tryz.prog 123 #[.string a0, .int .i64 a1] w fun e w' => e = .returned (.tuple #[.string r1, .int .i64 r2]) ∧ Below w.heap.size w w' := by
 have HB := Aside0.mk (Below.refl w.heap.size w)
 have H : (if a1 < 0 then (chars_Entity.j0 k a0 a1 true) else (if a1 ≥ (a0.size : Int) then (chars_Entity.j0 k a0 a1 true) else (if 0 ≤ a1 then (if a1 < (a0.size : Int) then (chars_Entity.j0 k a0 a1 ((bt a0 a1) != 38)) else (none)) else (none)))) = some (r1, r2) := h
 clear h
 have HC3 := Aside0.mk H
 clear H
 go_enter Tryz.func123, Tryz.ntmps123
 go_upto_region 1 with (fail)
 go_cut [27] (fun v27 wc => ∃ (kq : Nat) (x27_2 : Bool), v27 = .bool x27_2 ∧ Aside0 (chars_Entity.j0 kq a0 a1 x27_2 = some (r1, r2)) ∧ Aside0 (kq ≤ k) ∧ Aside0 (Below w.heap.size w wc))
 case first =>
  have H := HC3.out
  clear HC3
  revert H; refine X.ite_d (fun c4b0 H => ?_) (fun c4b0 H => ?_)
  rotate_left
  revert H; refine X.ite_d (c := (a0.size : Int) ≤ a1) (fun c5b0 H => ?_) (fun c5b0 H => ?_)
  rotate_left
  by_cases c6 : 0 ≤ a1
  rw [if_pos c6] at H
  have c6b0 : decide (0 ≤ a1) = true := decide_eq_true c6
  clear c6
  by_cases c7 : a1 < (a0.size : Int)
  rw [if_pos c7] at H
  have c7b0 : decide (a1 < (a0.size : Int)) = true := decide_eq_true c7
  clear c7
  rotate_left
  ·rw [if_neg c7] at H
   exact absurd H (by simp)
  ·rw [if_neg c6] at H
   exact absurd H (by simp)
  all_goals first
  | (have H' := Aside0.mk H
     clear H
     go_wp2
     go_meet
     case rel => exact ⟨_, (true), (by rfl), H', ⟨by first | omega | exact Nat.le_refl _⟩, ⟨zz7⟩⟩)
  | (have H' := Aside0.mk H
     clear H
     have pz1 : 0 ≤ (a1 : Int) := of_decide_eq_true (zz13)
     have qz1 : a1 < (a0.size : Int) := of_decide_eq_true (zz13)
     have hxz1 := bt_at a0 a1
     replace pz1 := eq_true pz1
     replace qz1 := eq_true qz1
     go_wp2
     go_meet
     case rel => exact ⟨_, (((bt a0 a1) != 38)), (by rfl), H', ⟨by omega⟩, ⟨zz7⟩⟩)
 case rest =>
  clear HC3
  obtain ⟨kq, x27_2, rfl, HA, HJ2, HB⟩ := hcut
  cases kq with
  | zero => exact absurd HA.out (by simp [chars_Entity.j0])
  | succ kj2 =>
   have H := HA.out
   clear HA
   simp only [chars_Entity.j0] at H
   by_cases c9 : x27_2 = true
   subst c9
   rw [if_pos rfl] at H
   rotate_left
   replace c9 := Bool.eq_false_iff.mpr c9
   subst c9
   rw [if_neg (show ¬ (false = true) by decide)] at H
   obtain ⟨ji10, hji10⟩ : ∃ j_ : Int, (wrap64 (a1 + 1)) = j_ := ⟨_, rfl⟩
   replace H : (if 0 ≤ (ji10) then (if (ji10) ≤ (a0.size : Int) then ((strings_Cut.f (a0.extract ((ji10) : Int).toNat a0.size) (⟨#[59]⟩ : ByteArray)).bind fun bt132 => (if bt132.2.2 = true then ((chars_named.f bt132.1).bind fun t135 => ((strings_CutPrefix.f bt132.1 (⟨#[35, 120]⟩ : ByteArray)).bind fun bt136 => ((strings_CutPrefix.f bt132.1 (⟨#[35]⟩ : ByteArray)).bind fun bt138 => (if bt136.2 = true then ((chars_numbered.f kj2 bt136.1 16).bind fun t140 => (if t140.toList = ([] : List UInt8) then (some ((⟨#[]⟩ : ByteArray), 0)) else (some (t140, wrap64 ((bt132.1.size : Int) + 2))))) else (if bt138.2 = true then ((chars_numbered.f kj2 bt138.1 10).bind fun t141 => (if t141.toList = ([] : List UInt8) then (some ((⟨#[]⟩ : ByteArray), 0)) else (some (t141, wrap64 ((bt132.1.size : Int) + 2))))) else (if t135.toList = ([] : List UInt8) then (some ((⟨#[]⟩ : ByteArray), 0)) else (some (t135, wrap64 ((bt132.1.size : Int) + 2))))))))) else (some ((⟨#[]⟩ : ByteArray), 0)))) else (none)) else (none)) = some (r1, r2) := by ((rw [hji10] at H; exact H))
   have hji10w : (IntKind.i64.wrap (a1 + 1)) = ji10 := (i64_w _).trans hji10
   by_cases c11 : 0 ≤ (ji10)
   rw [if_pos c11] at H
   have c11b0 := eq_true c11
   have c11b1 : decide (0 ≤ (ji10)) = true := decide_eq_true c11
   clear c11
   by_cases c12 : (ji10) ≤ (a0.size : Int)
   rw [if_pos c12] at H
   have c12b0 := eq_true c12
   have c12b1 : decide ((ji10) ≤ (a0.size : Int)) = true := decide_eq_true c12
   clear c12
   replace H := Option.bind_eq_some_iff.mp H
   obtain ⟨⟨t132, t133, t134⟩, A130, H⟩ := H
   dsimp only at H
   have A13 := Aside0.mk A130
   clear A130
   by_cases c14 : t134 = true
   subst c14
   rw [if_pos rfl] at H
   replace H := Option.bind_eq_some_iff.mp H
   obtain ⟨t135, A150, H⟩ := H
   have A15 := Aside0.mk A150
   clear A150
   replace H := Option.bind_eq_some_iff.mp H
   obtain ⟨⟨t136, t137⟩, A160, H⟩ := H
   dsimp only at H
   have A16 := Aside0.mk A160
   clear A160
   replace H := Option.bind_eq_some_iff.mp H
   obtain ⟨⟨t138, t139⟩, A170, H⟩ := H
   dsimp only at H
   have A17 := Aside0.mk A170
   clear A170
   by_cases c18 : t137 = true
   subst c18
   rw [if_pos rfl] at H
   replace H := Option.bind_eq_some_iff.mp H
   obtain ⟨t140, A190, H⟩ := H
   have A19 := Aside0.mk A190
   clear A190
   revert H; refine X.ite_b (fun c20b0 c20b1 H => ?_) (fun c20b0 c20b1 H => ?_)
   rotate_left
   rotate_left
   replace c18 := Bool.eq_false_iff.mpr c18
   subst c18
   rw [if_neg (show ¬ (false = true) by decide)] at H
   by_cases c23 : t139 = true
   subst c23
   rw [if_pos rfl] at H
   replace H := Option.bind_eq_some_iff.mp H
   obtain ⟨t141, A240, H⟩ := H
   have A24 := Aside0.mk A240
   clear A240
   revert H; refine X.ite_b (fun c25b0 c25b1 H => ?_) (fun c25b0 c25b1 H => ?_)
   rotate_left
   rotate_left
   replace c23 := Bool.eq_false_iff.mpr c23
   subst c23
   rw [if_neg (show ¬ (false = true) by decide)] at H
   revert H; refine X.ite_b (fun c28b0 c28b1 H => ?_) (fun c28b0 c28b1 H => ?_)
   rotate_left
   rotate_left
   replace c14 := Bool.eq_false_iff.mpr c14
   subst c14
   rw [if_neg (show ¬ (false = true) by decide)] at H
   rotate_left
   ·rw [if_neg c12] at H
    exact absurd H (by simp)
   ·rw [if_neg c11] at H
    exact absurd H (by simp)
   all_goals
    simp only [Option.some.injEq, Prod.mk.injEq] at H
    obtain ⟨rfl, rfl⟩ := H
    go_wp2_with (first | ((with_reducible refine gate_callee (f := 109) rfl ?_); refine goesL_ (some 33) rfl rfl Tryz.func109 (by kernel_rfl) rfl #[.string (a0.extract ((ji10) : Int).toNat a0.size), .string (⟨#[59]⟩ : ByteArray)] rfl (zz3) ?_; (with_reducible refine (strings_Cut.calls (a0.extract ((ji10) : Int).toNat a0.size) (⟨#[59]⟩ : ByteArray) t132 t133 false _ A13.out).mono ?_); rintro e w' ⟨rfl, ⟨nd, rfl⟩⟩; refine ⟨_, rfl, ?_⟩) | ((with_reducible refine gate_callee (f := 109) rfl ?_); refine goesL_ (some 33) rfl rfl Tryz.func109 (by kernel_rfl) rfl #[.string (a0.extract ((ji10) : Int).toNat a0.size), .string (⟨#[59]⟩ : ByteArray)] rfl (zz3) ?_; (with_reducible refine (strings_Cut.calls (a0.extract ((ji10) : Int).toNat a0.size) (⟨#[59]⟩ : ByteArray) t132 t133 true _ A13.out).mono ?_); rintro e w' ⟨rfl, ⟨nd, rfl⟩⟩; refine ⟨_, rfl, ?_⟩) | ((with_reducible refine gate_callee (f := 142) rfl ?_); refine goesL_ (some 40) rfl rfl Tryz.func142 (by kernel_rfl) rfl #[.string t132] rfl (zz3) ?_; (with_reducible refine (chars_named.calls t132 t135 _ A15.out).mono ?_); rintro e w' ⟨rfl, ⟨nd, rfl⟩⟩; refine ⟨_, rfl, ?_⟩) | ((with_reducible refine gate_callee (f := 143) rfl ?_); refine goesL_ (some 43) rfl rfl Tryz.func143 (by kernel_rfl) rfl #[.string t132, .string (⟨#[35, 120]⟩ : ByteArray)] rfl (zz3) ?_; (with_reducible refine (strings_CutPrefix.calls t132 (⟨#[35, 120]⟩ : ByteArray) t136 false _ A16.out).mono ?_); rintro e w' ⟨rfl, ⟨nd, rfl⟩⟩; refine ⟨_, rfl, ?_⟩) | ((with_reducible refine gate_callee (f := 143) rfl ?_); refine goesL_ (some 43) rfl rfl Tryz.func143 (by kernel_rfl) rfl #[.string t132, .string (⟨#[35, 120]⟩ : ByteArray)] rfl (zz3) ?_; (with_reducible refine (strings_CutPrefix.calls t132 (⟨#[35, 120]⟩ : ByteArray) t136 true _ A16.out).mono ?_); rintro e w' ⟨rfl, ⟨nd, rfl⟩⟩; refine ⟨_, rfl, ?_⟩) | ((with_reducible refine gate_callee (f := 143) rfl ?_); refine goesL_ (some 48) rfl rfl Tryz.func143 (by kernel_rfl) rfl #[.string t132, .string (⟨#[35]⟩ : ByteArray)] rfl (zz3) ?_; (with_reducible refine (strings_CutPrefix.calls t132 (⟨#[35]⟩ : ByteArray) t138 false _ A17.out).mono ?_); rintro e w' ⟨rfl, ⟨nd, rfl⟩⟩; refine ⟨_, rfl, ?_⟩) | ((with_reducible refine gate_callee (f := 143) rfl ?_); refine goesL_ (some 48) rfl rfl Tryz.func143 (by kernel_rfl) rfl #[.string t132, .string (⟨#[35]⟩ : ByteArray)] rfl (zz3) ?_; (with_reducible refine (strings_CutPrefix.calls t132 (⟨#[35]⟩ : ByteArray) t138 t139 _ A17.out).mono ?_); rintro e w' ⟨rfl, ⟨nd, rfl⟩⟩; refine ⟨_, rfl, ?_⟩) | ((with_reducible refine gate_callee (f := 143) rfl ?_); refine goesL_ (some 48) rfl rfl Tryz.func143 (by kernel_rfl) rfl #[.string t132, .string (⟨#[35]⟩ : ByteArray)] rfl (zz3) ?_; (with_reducible refine (strings_CutPrefix.calls t132 (⟨#[35]⟩ : ByteArray) t138 true _ A17.out).mono ?_); rintro e w' ⟨rfl, ⟨nd, rfl⟩⟩; refine ⟨_, rfl, ?_⟩) | ((with_reducible refine gate_callee (f := 144) rfl ?_); refine goesL_ (some 54) rfl rfl Tryz.func144 (by kernel_rfl) rfl #[.string t136, .int .i64 16] rfl (zz3) ?_; (with_reducible refine (chars_numbered.calls kj2 t136 16 t140 _ A19.out).mono ?_); rintro e wz1 ⟨rfl, hb⟩; refine ⟨_, rfl, ?_⟩; have n0_ := Aside0.mk (below_step (zz6) hb); clear HB; have HB := n0_; clear n0_; (clear hb)) | ((with_reducible refine gate_callee (f := 144) rfl ?_); refine goesL_ (some 58) rfl rfl Tryz.func144 (by kernel_rfl) rfl #[.string t138, .int .i64 10] rfl (zz3) ?_; (with_reducible refine (chars_numbered.calls kj2 t138 10 t141 _ A24.out).mono ?_); rintro e wz1 ⟨rfl, hb⟩; refine ⟨_, rfl, ?_⟩; have n0_ := Aside0.mk (below_step (zz6) hb); clear HB; have HB := n0_; clear n0_; (clear hb)))
    go_ret2
    ((exact ⟨by rfl, zz6⟩))
end Go.Proofs.YtlhhhlimjajnlaaGreat.Q
end
