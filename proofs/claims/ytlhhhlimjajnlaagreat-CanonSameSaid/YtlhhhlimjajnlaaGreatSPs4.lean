/- Parts of the proof of canonSame_holds, kept and merged by a program of mine (wip/tools/slim.py) out of my texts: Q0 Fold Q1 Q2 Q13 -/
import Derived.Test.YtlhhhlimjajnlaaGreatProg
import Derived.Below
import Derived.Deep.Draws
import Derived.Deep.AppendLies
import Derived.Maps.AppendAt
import Derived.OwnWalk
import Derived.Laws.BytesArg
import Derived.Laws.MakeOwn
import Derived.Laws.OwnMore
import Derived.Deep.OwnRows
import Derived.Tactics
import Derived.Lib.ConvBytes
import Derived.Laws.Slices
import Derived.WalkKit
import Derived.KernelRfl
import Derived.RowKit3
import Derived.Deep.LoopGhost
import Derived.Deep.QuietTactic
import Derived.BigQuiet
import Derived.WideLaws
import Derived.Deep.DeepCutAuto
import Derived.Deep.CutBlock
import Derived.Deep.RegionHeld3
import Derived.Laws.Rows
import Derived.Lib.AppendStr
import Derived.ArgAppend
import Derived.Laws.IdiomCopy
import Derived.OrdersHeld
import Derived.Laws.BitsLemmas
import Derived.RowKit
import Derived.WalkMore
import Derived.Test.YtlhhhlimjajnlaaGreatSPs1
import Derived.Test.YtlhhhlimjajnlaaGreatSPs2
import Derived.Test.YtlhhhlimjajnlaaGreatSPs3
section
namespace Go.Proofs.YtlhhhlimjajnlaaGreat.X
end Go.Proofs.YtlhhhlimjajnlaaGreat.X
namespace Go.Proofs.YtlhhhlimjajnlaaGreat.Q
open Go.RowKit Go.Proofs.YtlhhhlimjajnlaaGreatW.PrintWords Go.Proofs.YtlhhhlimjajnlaaGreatW.PrintLast Go.Proofs.YtlhhhlimjajnlaaGreatW.PrintMore
attribute [local go_sem] max2_int min2_int max_two min_two max_three min_three max_four min_four   
open Go.Proofs.YtlhhhlimjajnlaaGreat.X
set_option linter.unusedVariables false
set_option linter.unusedSimpArgs false
def errW : Option Int → Value
  | none => .nilIface
  | some c => .iface 0 (.int .i64 c)
theorem errW_none : errW none = .nilIface := rfl
theorem errW_some (c : Int) : errW (some c) = .iface 0 (.int .i64 c) := rfl
theorem info5 : (Tryz.prog.info? 5).map (fun i => (i.zero, i.size, i.bytes)) = some (some (.int .u8 0), 1, 1) := by kernel_rfl
theorem info9 : (Tryz.prog.info? 9).map (fun i => (i.zero, i.size, i.bytes)) = some (some (.string ⟨#[]⟩), 1, 16) := by kernel_rfl
theorem info41 : (Tryz.prog.info? 41).map (fun i => (i.zero, i.size, i.bytes)) = some (some (.agg #[(.int .i64 0), (.int .i64 0), (.int .i64 0), (.string ⟨#[]⟩)]), 4, 40) := by kernel_rfl
structure S51 where
  f0 : Int
  f1 : Int
  f2 : Int
  f3 : ByteArray
  f4 : ByteArray
def z51 : S51 := ⟨(0 : Int), (0 : Int), (0 : Int), (⟨#[]⟩ : ByteArray), (⟨#[]⟩ : ByteArray)⟩
def k51 : Kd S51 := Kd.iso (Kd.pair (Kd.int .i64) (Kd.pair (Kd.int .i64) (Kd.pair (Kd.int .i64) (Kd.pair Kd.string Kd.string)))) (fun x : S51 => (x.f0, x.f1, x.f2, x.f3, x.f4))
theorem k51_open {w : World} {x : S51} {cs : List Value} (h : k51.K w x cs) : cs = [.int .i64 x.f0, .int .i64 x.f1, .int .i64 x.f2, .string x.f3, .string x.f4] := by
  obtain ⟨_, _, rfl, rfl, ⟨_, _, rfl, rfl, ⟨_, _, rfl, rfl, ⟨_, _, rfl, rfl, rfl⟩⟩⟩⟩ := h
  exact rfl
theorem k51_mkM (w : World) (base : Nat) (ok : Nat → Prop) (x : S51)  : k51.M w base ok x [.int .i64 x.f0, .int .i64 x.f1, .int .i64 x.f2, .string x.f3, .string x.f4] := ⟨[.int .i64 x.f0], [.int .i64 x.f1, .int .i64 x.f2, .string x.f3, .string x.f4], rfl, rfl, ⟨[.int .i64 x.f1], [.int .i64 x.f2, .string x.f3, .string x.f4], rfl, rfl, ⟨[.int .i64 x.f2], [.string x.f3, .string x.f4], rfl, rfl, ⟨[.string x.f3], [.string x.f4], rfl, rfl, rfl⟩⟩⟩⟩
def rd_T51 (xs : List S51) (i : Int) : S51 := xs.getD i.toNat z51
theorem at_T51 {w : World} {A : Option Addr} {n : Nat} {xs : List S51} (h : Kd.C k51 w A n xs) (i : Int) (h0 : 0 ≤ i) (h1 : i < n) : ∃ ad , A = some ad ∧ w.cell? (ad.add (i.toNat * 5)) = some (.int .i64 (rd_T51 xs i).f0) ∧ w.cell? ⟨(ad.add (i.toNat * 5)).block, (ad.add (i.toNat * 5)).off + 1, none⟩ = some (.int .i64 (rd_T51 xs i).f1) ∧ w.cell? ⟨(ad.add (i.toNat * 5)).block, (ad.add (i.toNat * 5)).off + 2, none⟩ = some (.int .i64 (rd_T51 xs i).f2) ∧ w.cell? ⟨(ad.add (i.toNat * 5)).block, (ad.add (i.toNat * 5)).off + 3, none⟩ = some (.string (rd_T51 xs i).f3) ∧ w.cell? ⟨(ad.add (i.toNat * 5)).block, (ad.add (i.toNat * 5)).off + 4, none⟩ = some (.string (rd_T51 xs i).f4) := by
  obtain ⟨ad, c, e, _, hK, hc0⟩ := Kd.C_get h z51 i h0 h1
  have hc : ∀ j u, c[j]? = some u → w.cell? (ad.add (i.toNat * 5 + j)) = some u := hc0
  obtain rfl := k51_open hK
  exact ⟨ad, e, hc 0 _ rfl, by rw [← add_field _ _ 1 (by omega)]; exact hc 1 _ rfl, by rw [← add_field _ _ 2 (by omega)]; exact hc 2 _ rfl, by rw [← add_field _ _ 3 (by omega)]; exact hc 3 _ rfl, by rw [← add_field _ _ 4 (by omega)]; exact hc 4 _ rfl⟩
structure S41 where
  f0 : Int
  f1 : Int
  f2 : Int
  f3 : ByteArray
def z41 : S41 := ⟨(0 : Int), (0 : Int), (0 : Int), (⟨#[]⟩ : ByteArray)⟩
def k41 : Kd S41 := Kd.iso (Kd.pair (Kd.int .i64) (Kd.pair (Kd.int .i64) (Kd.pair (Kd.int .i64) Kd.string))) (fun x : S41 => (x.f0, x.f1, x.f2, x.f3))
theorem k41_open {w : World} {x : S41} {cs : List Value} (h : k41.K w x cs) : cs = [.int .i64 x.f0, .int .i64 x.f1, .int .i64 x.f2, .string x.f3] := by
  obtain ⟨_, _, rfl, rfl, ⟨_, _, rfl, rfl, ⟨_, _, rfl, rfl, rfl⟩⟩⟩ := h
  exact rfl
theorem k41_mk (w : World) (x : S41)  : k41.K w x [.int .i64 x.f0, .int .i64 x.f1, .int .i64 x.f2, .string x.f3] := ⟨[.int .i64 x.f0], [.int .i64 x.f1, .int .i64 x.f2, .string x.f3], rfl, rfl, ⟨[.int .i64 x.f1], [.int .i64 x.f2, .string x.f3], rfl, rfl, ⟨[.int .i64 x.f2], [.string x.f3], rfl, rfl, rfl⟩⟩⟩
theorem k41_mkM (w : World) (base : Nat) (ok : Nat → Prop) (x : S41)  : k41.M w base ok x [.int .i64 x.f0, .int .i64 x.f1, .int .i64 x.f2, .string x.f3] := ⟨[.int .i64 x.f0], [.int .i64 x.f1, .int .i64 x.f2, .string x.f3], rfl, rfl, ⟨[.int .i64 x.f1], [.int .i64 x.f2, .string x.f3], rfl, rfl, ⟨[.int .i64 x.f2], [.string x.f3], rfl, rfl, rfl⟩⟩⟩
def rd_T41 (xs : List S41) (i : Int) : S41 := xs.getD i.toNat z41
theorem at_T41 {w : World} {A : Option Addr} {n : Nat} {xs : List S41} (h : Kd.C k41 w A n xs) (i : Int) (h0 : 0 ≤ i) (h1 : i < n) : ∃ ad , A = some ad ∧ w.cell? (ad.add (i.toNat * 4)) = some (.int .i64 (rd_T41 xs i).f0) ∧ w.cell? ⟨(ad.add (i.toNat * 4)).block, (ad.add (i.toNat * 4)).off + 1, none⟩ = some (.int .i64 (rd_T41 xs i).f1) ∧ w.cell? ⟨(ad.add (i.toNat * 4)).block, (ad.add (i.toNat * 4)).off + 2, none⟩ = some (.int .i64 (rd_T41 xs i).f2) ∧ w.cell? ⟨(ad.add (i.toNat * 4)).block, (ad.add (i.toNat * 4)).off + 3, none⟩ = some (.string (rd_T41 xs i).f3) := by
  obtain ⟨ad, c, e, _, hK, hc0⟩ := Kd.C_get h z41 i h0 h1
  have hc : ∀ j u, c[j]? = some u → w.cell? (ad.add (i.toNat * 4 + j)) = some u := hc0
  obtain rfl := k41_open hK
  exact ⟨ad, e, hc 0 _ rfl, by rw [← add_field _ _ 1 (by omega)]; exact hc 1 _ rfl, by rw [← add_field _ _ 2 (by omega)]; exact hc 2 _ rfl, by rw [← add_field _ _ 3 (by omega)]; exact hc 3 _ rfl⟩
structure S27 where
  f0 : (List ByteArray)
  f1 : (List S41)
def z27 : S27 := ⟨([] : List ByteArray), ([] : List S41)⟩
structure S104 where
  f0 : S41
  f1 : ByteArray
def z104 : S104 := ⟨z41, (⟨#[]⟩ : ByteArray)⟩
def rd_T104 (xs : List S104) (i : Int) : S104 := xs.getD i.toNat z104
end Go.Proofs.YtlhhhlimjajnlaaGreat.Q
end
section
namespace Go.Proofs.YtlhhhlimjajnlaaGreat.X
theorem ite_d {α : Type} {c : Prop} [Decidable c] {a b : Option α} {r : α} {P : Prop} (h1 : decide c = true → a = some r → P) (h2 : decide c = false → b = some r → P) : (if c then a else b) = some r → P := by
  by_cases h : c
  · rw [if_pos h]; exact h1 (decide_eq_true h)
  · rw [if_neg h]; exact h2 (decide_eq_false h)
theorem ite_b {α β : Type} [BEq β] [LawfulBEq β] {x y : β} [Decidable (x = y)] {a b : Option α} {r : α} {P : Prop} (h1 : (x == y) = true → (x != y) = false → a = some r → P) (h2 : (x == y) = false → (x != y) = true → b = some r → P) : (if x = y then a else b) = some r → P := by
  by_cases h : x = y
  · rw [if_pos h]; exact h1 (beq_iff_eq.mpr h) (bne_eq_false_iff_eq.mpr h)
  · rw [if_neg h]; exact h2 (beq_eq_false_iff_ne.mpr h) (bne_iff_ne.mpr h)
end Go.Proofs.YtlhhhlimjajnlaaGreat.X
end
section
namespace Go.Proofs.YtlhhhlimjajnlaaGreat.X
end Go.Proofs.YtlhhhlimjajnlaaGreat.X
namespace Go.Proofs.YtlhhhlimjajnlaaGreat.Q
open Go.RowKit Go.Proofs.YtlhhhlimjajnlaaGreatW.PrintWords Go.Proofs.YtlhhhlimjajnlaaGreatW.PrintLast Go.Proofs.YtlhhhlimjajnlaaGreatW.PrintMore
attribute [local go_sem] max2_int min2_int max_two min_two max_three min_three max_four min_four   
open Go.Proofs.YtlhhhlimjajnlaaGreat.X
set_option linter.unusedVariables false
set_option linter.unusedSimpArgs false
theorem eqA41 (d : Nat) (w : World) (x0 y0 : Int) (x1 y1 : Int) (x2 y2 : Int) (x3 y3 : ByteArray) :
    (Op.equalIn (d + 2) 41 (.agg #[.int .i64 x0, .int .i64 x1, .int .i64 x2, .string x3]) (.agg #[.int .i64 y0, .int .i64 y1, .int .i64 y2, .string y3])).run Tryz.prog w = .ok (x0 == y0 && (x1 == y1 && (x2 == y2 && (x3.toList == y3.toList)))) w := by
  refine eqA_of Tryz.underlying41 (by kernel_rfl) ?_
  refine eqf_cons (by rfl) (by go_simp; rfl) (by go_simp; rfl) (by go_simp) ?_
  refine eqf_cons (by rfl) (by go_simp; rfl) (by go_simp; rfl) (by go_simp) ?_
  refine eqf_cons (by rfl) (by go_simp; rfl) (by go_simp; rfl) (by go_simp) ?_
  exact eqf_last (by rfl) (by go_simp; rfl) (by go_simp; rfl) (by go_simp)
end Go.Proofs.YtlhhhlimjajnlaaGreat.Q
end
section
namespace Go.Proofs.YtlhhhlimjajnlaaGreat.X
end Go.Proofs.YtlhhhlimjajnlaaGreat.X
namespace Go.Proofs.YtlhhhlimjajnlaaGreat.Q
open Go.RowKit Go.Proofs.YtlhhhlimjajnlaaGreatW.PrintWords Go.Proofs.YtlhhhlimjajnlaaGreatW.PrintLast Go.Proofs.YtlhhhlimjajnlaaGreatW.PrintMore
attribute [local go_sem] max2_int min2_int max_two min_two max_three min_three max_four min_four   
open Go.Proofs.YtlhhhlimjajnlaaGreat.X
set_option linter.unusedVariables false
set_option linter.unusedSimpArgs false
def topiaryref11_begins.f (a0 : ByteArray) (a1 : Int) (a2 : ByteArray) : Option (Bool) := if a1 ≥ 0 then (if a1 ≤ (a0.size : Int) then (if (wrap64 ((a0.size : Int) - a1)) ≥ (a2.size : Int) then (if 0 ≤ a1 then (if a1 ≤ (wrap64 (a1 + (a2.size : Int))) then (if (wrap64 (a1 + (a2.size : Int))) ≤ (a0.size : Int) then (some ((a0.extract (a1 : Int).toNat ((wrap64 (a1 + (a2.size : Int))) : Int).toNat).toList == a2.toList)) else (none)) else (none)) else (none)) else (some false)) else (some false)) else (some false)
set_option maxHeartbeats 8000000 in
set_option maxRecDepth 100000 in
theorem topiaryref11_begins.calls (a0 : ByteArray) (a1 : Int) (a2 : ByteArray) (r : Bool) (w : World) (h : topiaryref11_begins.f a0 a1 a2 = some r) :
 Calls Tryz.prog 137 #[.string a0, .int .i64 a1, .string a2] w fun e w' => e = .returned (.bool r) ∧ Drawn0 w w' := by
 have H : (if a1 ≥ 0 then (if a1 ≤ (a0.size : Int) then (if (wrap64 ((a0.size : Int) - a1)) ≥ (a2.size : Int) then (if 0 ≤ a1 then (if a1 ≤ (wrap64 (a1 + (a2.size : Int))) then (if (wrap64 (a1 + (a2.size : Int))) ≤ (a0.size : Int) then (some ((a0.extract (a1 : Int).toNat ((wrap64 (a1 + (a2.size : Int))) : Int).toNat).toList == a2.toList)) else (none)) else (none)) else (none)) else (some false)) else (some false)) else (some false)) = some r := h
 clear h
 revert H; refine X.ite_d (c := 0 ≤ a1) (fun c4b0 H => ?_) (fun c4b0 H => ?_)
 revert H; refine X.ite_d (fun c5b0 H => ?_) (fun c5b0 H => ?_)
 revert H; refine X.ite_d (c := (a2.size : Int) ≤ (wrap64 ((a0.size : Int) - a1))) (fun c6b0 H => ?_) (fun c6b0 H => ?_)
 by_cases c7 : 0 ≤ a1
 rw [if_pos c7] at H
 have c7b0 := eq_true c7
 have c7b1 : decide (0 ≤ a1) = true := decide_eq_true c7
 clear c7
 by_cases c8 : a1 ≤ (wrap64 (a1 + (a2.size : Int)))
 rw [if_pos c8] at H
 have c8b0 := eq_true c8
 have c8b1 : decide (a1 ≤ (wrap64 (a1 + (a2.size : Int)))) = true := decide_eq_true c8
 by_cases c9 : (wrap64 (a1 + (a2.size : Int))) ≤ (a0.size : Int)
 rw [if_pos c9] at H
 have c9b0 := eq_true c9
 have c9b1 : decide ((wrap64 (a1 + (a2.size : Int))) ≤ (a0.size : Int)) = true := decide_eq_true c9
 rotate_left
 ·rw [if_neg c9] at H
  exact absurd H (by simp)
 ·rw [if_neg c8] at H
  exact absurd H (by simp)
 ·rw [if_neg c7] at H
  exact absurd H (by simp)
 rotate_left
 rotate_left
 ·obtain rfl := Option.some.inj H
  go_enter Tryz.func137, Tryz.ntmps137
  go_wp2
  go_ret
  exact ⟨by rfl, by repeat (exact Drawn0.refl _)⟩
 all_goals
  obtain rfl := Option.some.inj H
  go_enter Tryz.func137, Tryz.ntmps137
  go_wp2
  go_ret
  exact ⟨by rfl, by repeat (exact Drawn0.refl _)⟩
mutual
def topiaryref11_number.l0 : Nat → ByteArray → Int → Int → Int → Int → Option (Int × Int)
 | 0, _, _, _, _, _ => none
 | k + 1, x0, x1, x2, x8, x9 => if x9 ≤ 8 then (if (wrap64 (x1 + x9)) ≥ (x0.size : Int) then (some (0, 0)) else (if 0 ≤ (wrap64 (x1 + x9)) then (if (wrap64 (x1 + x9)) < (x0.size : Int) then (if (wrap64 (bt x0 (wrap64 (x1 + x9)))) = 59 then (topiaryref11_number.j1 k x0 x1 x2 x8 x9 (wrap64 (bt x0 (wrap64 (x1 + x9)))) (decide (x9 > 0))) else (topiaryref11_number.j1 k x0 x1 x2 x8 x9 (wrap64 (bt x0 (wrap64 (x1 + x9)))) false)) else (none)) else (none))) else (some (0, 0))
def topiaryref11_number.j1 : Nat → ByteArray → Int → Int → Int → Int → Int → Bool → Option (Int × Int)
 | 0, _, _, _, _, _, _, _ => none
 | k + 1, x0, x1, x2, x8, x9, x10, x33 => if x33 = true then (some (x8, x9)) else (if x10 ≥ 48 then (topiaryref11_number.j2 k x0 x1 x2 x8 x9 x10 99 (decide (x10 ≤ 57))) else (topiaryref11_number.j2 k x0 x1 x2 x8 x9 x10 99 false))
def topiaryref11_number.j2 : Nat → ByteArray → Int → Int → Int → Int → Int → Int → Bool → Option (Int × Int)
 | 0, _, _, _, _, _, _, _, _ => none
 | k + 1, x0, x1, x2, x8, x9, x10, x11, x41 => if x41 = true then (topiaryref11_number.j3 k x0 x1 x2 x8 x9 x10 (wrap64 (x10 - 48))) else (topiaryref11_number.j3 k x0 x1 x2 x8 x9 x10 x11)
def topiaryref11_number.j3 : Nat → ByteArray → Int → Int → Int → Int → Int → Int → Option (Int × Int)
 | 0, _, _, _, _, _, _, _ => none
 | k + 1, x0, x1, x2, x8, x9, x10, x11 => if x10 ≥ 97 then (topiaryref11_number.j4 k x0 x1 x2 x8 x9 x10 x11 (decide (x10 ≤ 102))) else (topiaryref11_number.j4 k x0 x1 x2 x8 x9 x10 x11 false)
def topiaryref11_number.j4 : Nat → ByteArray → Int → Int → Int → Int → Int → Int → Bool → Option (Int × Int)
 | 0, _, _, _, _, _, _, _, _ => none
 | k + 1, x0, x1, x2, x8, x9, x10, x11, x49 => if x49 = true then (topiaryref11_number.j5 k x0 x1 x2 x8 x9 x10 (wrap64 ((wrap64 (x10 - 97)) + 10))) else (topiaryref11_number.j5 k x0 x1 x2 x8 x9 x10 x11)
def topiaryref11_number.j5 : Nat → ByteArray → Int → Int → Int → Int → Int → Int → Option (Int × Int)
 | 0, _, _, _, _, _, _, _ => none
 | k + 1, x0, x1, x2, x8, x9, x10, x11 => if x10 ≥ 65 then (topiaryref11_number.j6 k x0 x1 x2 x8 x9 x10 x11 (decide (x10 ≤ 70))) else (topiaryref11_number.j6 k x0 x1 x2 x8 x9 x10 x11 false)
def topiaryref11_number.j6 : Nat → ByteArray → Int → Int → Int → Int → Int → Int → Bool → Option (Int × Int)
 | 0, _, _, _, _, _, _, _, _ => none
 | k + 1, x0, x1, x2, x8, x9, x10, x11, x58 => if x58 = true then (if (wrap64 ((wrap64 (x10 - 65)) + 10)) ≥ x2 then (some (0, 0)) else (topiaryref11_number.l0 k x0 x1 x2 (wrap64 ((wrap64 (x8 * x2)) + (wrap64 ((wrap64 (x10 - 65)) + 10)))) (wrap64 (x9 + 1)))) else (if x11 ≥ x2 then (some (0, 0)) else (topiaryref11_number.l0 k x0 x1 x2 (wrap64 ((wrap64 (x8 * x2)) + x11)) (wrap64 (x9 + 1))))
end
def topiaryref11_number.f (k : Nat) (a0 : ByteArray) (a1 : Int) (a2 : Int) : Option (Int × Int) := topiaryref11_number.l0 k a0 a1 a2 0 0
theorem topiaryref11_number.mono_l : ∀ k, (∀ y0 y1 y2 y3 y4, LeO (topiaryref11_number.l0 k y0 y1 y2 y3 y4) (topiaryref11_number.l0 (k + 1) y0 y1 y2 y3 y4)) ∧ (∀ y0 y1 y2 y3 y4 y5 y6, LeO (topiaryref11_number.j1 k y0 y1 y2 y3 y4 y5 y6) (topiaryref11_number.j1 (k + 1) y0 y1 y2 y3 y4 y5 y6)) ∧ (∀ y0 y1 y2 y3 y4 y5 y6 y7, LeO (topiaryref11_number.j2 k y0 y1 y2 y3 y4 y5 y6 y7) (topiaryref11_number.j2 (k + 1) y0 y1 y2 y3 y4 y5 y6 y7)) ∧ (∀ y0 y1 y2 y3 y4 y5 y6, LeO (topiaryref11_number.j3 k y0 y1 y2 y3 y4 y5 y6) (topiaryref11_number.j3 (k + 1) y0 y1 y2 y3 y4 y5 y6)) ∧ (∀ y0 y1 y2 y3 y4 y5 y6 y7, LeO (topiaryref11_number.j4 k y0 y1 y2 y3 y4 y5 y6 y7) (topiaryref11_number.j4 (k + 1) y0 y1 y2 y3 y4 y5 y6 y7)) ∧ (∀ y0 y1 y2 y3 y4 y5 y6, LeO (topiaryref11_number.j5 k y0 y1 y2 y3 y4 y5 y6) (topiaryref11_number.j5 (k + 1) y0 y1 y2 y3 y4 y5 y6)) ∧ (∀ y0 y1 y2 y3 y4 y5 y6 y7, LeO (topiaryref11_number.j6 k y0 y1 y2 y3 y4 y5 y6 y7) (topiaryref11_number.j6 (k + 1) y0 y1 y2 y3 y4 y5 y6 y7))
 | 0 => ⟨fun _ _ _ _ _ r h => by simp [topiaryref11_number.l0] at h, fun _ _ _ _ _ _ _ r h => by simp [topiaryref11_number.j1] at h, fun _ _ _ _ _ _ _ _ r h => by simp [topiaryref11_number.j2] at h, fun _ _ _ _ _ _ _ r h => by simp [topiaryref11_number.j3] at h, fun _ _ _ _ _ _ _ _ r h => by simp [topiaryref11_number.j4] at h, fun _ _ _ _ _ _ _ r h => by simp [topiaryref11_number.j5] at h, fun _ _ _ _ _ _ _ _ r h => by simp [topiaryref11_number.j6] at h⟩
 | k + 1 => by
  obtain ⟨ih0, ih1, ih2, ih3, ih4, ih5, ih6⟩ := topiaryref11_number.mono_l k
  refine ⟨?_, ?_, ?_, ?_, ?_, ?_, ?_⟩
  ·intro y0 y1 y2 y3 y4
   unfold topiaryref11_number.l0
   repeat' first
   | (with_reducible exact ih0 _ _ _ _ _)
   | (with_reducible exact ih1 _ _ _ _ _ _ _)
   | (with_reducible exact ih2 _ _ _ _ _ _ _ _)
   | (with_reducible exact ih3 _ _ _ _ _ _ _)
   | (with_reducible exact ih4 _ _ _ _ _ _ _ _)
   | (with_reducible exact ih5 _ _ _ _ _ _ _)
   | (with_reducible exact ih6 _ _ _ _ _ _ _ _)
   | (with_reducible exact LeO.refl _)
   | (with_reducible exact LeO.none _)
   | (with_reducible refine LeO.ite ?_ ?_)
   | (with_reducible refine LeO.bind ?_ (fun _ => ?_))
   | exact ih0 _ _ _ _ _
   | exact ih1 _ _ _ _ _ _ _
   | exact ih2 _ _ _ _ _ _ _ _
   | exact ih3 _ _ _ _ _ _ _
   | exact ih4 _ _ _ _ _ _ _ _
   | exact ih5 _ _ _ _ _ _ _
   | exact ih6 _ _ _ _ _ _ _ _
   | exact LeO.none _
   | refine LeO.ite ?_ ?_
   | refine LeO.bind ?_ (fun _ => ?_)
  ·intro y0 y1 y2 y3 y4 y5 y6
   unfold topiaryref11_number.j1
   repeat' first
   | (with_reducible exact ih0 _ _ _ _ _)
   | (with_reducible exact ih1 _ _ _ _ _ _ _)
   | (with_reducible exact ih2 _ _ _ _ _ _ _ _)
   | (with_reducible exact ih3 _ _ _ _ _ _ _)
   | (with_reducible exact ih4 _ _ _ _ _ _ _ _)
   | (with_reducible exact ih5 _ _ _ _ _ _ _)
   | (with_reducible exact ih6 _ _ _ _ _ _ _ _)
   | (with_reducible exact LeO.refl _)
   | (with_reducible exact LeO.none _)
   | (with_reducible refine LeO.ite ?_ ?_)
   | (with_reducible refine LeO.bind ?_ (fun _ => ?_))
   | exact ih0 _ _ _ _ _
   | exact ih1 _ _ _ _ _ _ _
   | exact ih2 _ _ _ _ _ _ _ _
   | exact ih3 _ _ _ _ _ _ _
   | exact ih4 _ _ _ _ _ _ _ _
   | exact ih5 _ _ _ _ _ _ _
   | exact ih6 _ _ _ _ _ _ _ _
   | exact LeO.none _
   | refine LeO.ite ?_ ?_
   | refine LeO.bind ?_ (fun _ => ?_)
  ·intro y0 y1 y2 y3 y4 y5 y6 y7
   unfold topiaryref11_number.j2
   repeat' first
   | (with_reducible exact ih0 _ _ _ _ _)
   | (with_reducible exact ih1 _ _ _ _ _ _ _)
   | (with_reducible exact ih2 _ _ _ _ _ _ _ _)
   | (with_reducible exact ih3 _ _ _ _ _ _ _)
   | (with_reducible exact ih4 _ _ _ _ _ _ _ _)
   | (with_reducible exact ih5 _ _ _ _ _ _ _)
   | (with_reducible exact ih6 _ _ _ _ _ _ _ _)
   | (with_reducible exact LeO.refl _)
   | (with_reducible exact LeO.none _)
   | (with_reducible refine LeO.ite ?_ ?_)
   | (with_reducible refine LeO.bind ?_ (fun _ => ?_))
   | exact ih0 _ _ _ _ _
   | exact ih1 _ _ _ _ _ _ _
   | exact ih2 _ _ _ _ _ _ _ _
   | exact ih3 _ _ _ _ _ _ _
   | exact ih4 _ _ _ _ _ _ _ _
   | exact ih5 _ _ _ _ _ _ _
   | exact ih6 _ _ _ _ _ _ _ _
   | exact LeO.none _
   | refine LeO.ite ?_ ?_
   | refine LeO.bind ?_ (fun _ => ?_)
  ·intro y0 y1 y2 y3 y4 y5 y6
   unfold topiaryref11_number.j3
   repeat' first
   | (with_reducible exact ih0 _ _ _ _ _)
   | (with_reducible exact ih1 _ _ _ _ _ _ _)
   | (with_reducible exact ih2 _ _ _ _ _ _ _ _)
   | (with_reducible exact ih3 _ _ _ _ _ _ _)
   | (with_reducible exact ih4 _ _ _ _ _ _ _ _)
   | (with_reducible exact ih5 _ _ _ _ _ _ _)
   | (with_reducible exact ih6 _ _ _ _ _ _ _ _)
   | (with_reducible exact LeO.refl _)
   | (with_reducible exact LeO.none _)
   | (with_reducible refine LeO.ite ?_ ?_)
   | (with_reducible refine LeO.bind ?_ (fun _ => ?_))
   | exact ih0 _ _ _ _ _
   | exact ih1 _ _ _ _ _ _ _
   | exact ih2 _ _ _ _ _ _ _ _
   | exact ih3 _ _ _ _ _ _ _
   | exact ih4 _ _ _ _ _ _ _ _
   | exact ih5 _ _ _ _ _ _ _
   | exact ih6 _ _ _ _ _ _ _ _
   | exact LeO.none _
   | refine LeO.ite ?_ ?_
   | refine LeO.bind ?_ (fun _ => ?_)
  ·intro y0 y1 y2 y3 y4 y5 y6 y7
   unfold topiaryref11_number.j4
   repeat' first
   | (with_reducible exact ih0 _ _ _ _ _)
   | (with_reducible exact ih1 _ _ _ _ _ _ _)
   | (with_reducible exact ih2 _ _ _ _ _ _ _ _)
   | (with_reducible exact ih3 _ _ _ _ _ _ _)
   | (with_reducible exact ih4 _ _ _ _ _ _ _ _)
   | (with_reducible exact ih5 _ _ _ _ _ _ _)
   | (with_reducible exact ih6 _ _ _ _ _ _ _ _)
   | (with_reducible exact LeO.refl _)
   | (with_reducible exact LeO.none _)
   | (with_reducible refine LeO.ite ?_ ?_)
   | (with_reducible refine LeO.bind ?_ (fun _ => ?_))
   | exact ih0 _ _ _ _ _
   | exact ih1 _ _ _ _ _ _ _
   | exact ih2 _ _ _ _ _ _ _ _
   | exact ih3 _ _ _ _ _ _ _
   | exact ih4 _ _ _ _ _ _ _ _
   | exact ih5 _ _ _ _ _ _ _
   | exact ih6 _ _ _ _ _ _ _ _
   | exact LeO.none _
   | refine LeO.ite ?_ ?_
   | refine LeO.bind ?_ (fun _ => ?_)
  ·intro y0 y1 y2 y3 y4 y5 y6
   unfold topiaryref11_number.j5
   repeat' first
   | (with_reducible exact ih0 _ _ _ _ _)
   | (with_reducible exact ih1 _ _ _ _ _ _ _)
   | (with_reducible exact ih2 _ _ _ _ _ _ _ _)
   | (with_reducible exact ih3 _ _ _ _ _ _ _)
   | (with_reducible exact ih4 _ _ _ _ _ _ _ _)
   | (with_reducible exact ih5 _ _ _ _ _ _ _)
   | (with_reducible exact ih6 _ _ _ _ _ _ _ _)
   | (with_reducible exact LeO.refl _)
   | (with_reducible exact LeO.none _)
   | (with_reducible refine LeO.ite ?_ ?_)
   | (with_reducible refine LeO.bind ?_ (fun _ => ?_))
   | exact ih0 _ _ _ _ _
   | exact ih1 _ _ _ _ _ _ _
   | exact ih2 _ _ _ _ _ _ _ _
   | exact ih3 _ _ _ _ _ _ _
   | exact ih4 _ _ _ _ _ _ _ _
   | exact ih5 _ _ _ _ _ _ _
   | exact ih6 _ _ _ _ _ _ _ _
   | exact LeO.none _
   | refine LeO.ite ?_ ?_
   | refine LeO.bind ?_ (fun _ => ?_)
  ·intro y0 y1 y2 y3 y4 y5 y6 y7
   unfold topiaryref11_number.j6
   repeat' first
   | (with_reducible exact ih0 _ _ _ _ _)
   | (with_reducible exact ih1 _ _ _ _ _ _ _)
   | (with_reducible exact ih2 _ _ _ _ _ _ _ _)
   | (with_reducible exact ih3 _ _ _ _ _ _ _)
   | (with_reducible exact ih4 _ _ _ _ _ _ _ _)
   | (with_reducible exact ih5 _ _ _ _ _ _ _)
   | (with_reducible exact ih6 _ _ _ _ _ _ _ _)
   | (with_reducible exact LeO.refl _)
   | (with_reducible exact LeO.none _)
   | (with_reducible refine LeO.ite ?_ ?_)
   | (with_reducible refine LeO.bind ?_ (fun _ => ?_))
   | exact ih0 _ _ _ _ _
   | exact ih1 _ _ _ _ _ _ _
   | exact ih2 _ _ _ _ _ _ _ _
   | exact ih3 _ _ _ _ _ _ _
   | exact ih4 _ _ _ _ _ _ _ _
   | exact ih5 _ _ _ _ _ _ _
   | exact ih6 _ _ _ _ _ _ _ _
   | exact LeO.none _
   | refine LeO.ite ?_ ?_
   | refine LeO.bind ?_ (fun _ => ?_)
theorem topiaryref11_number.mono : ∀ a0 a1 a2 k, LeO (topiaryref11_number.f k a0 a1 a2) (topiaryref11_number.f (k + 1) a0 a1 a2) := by
 intro a0 a1 a2 k
 obtain ⟨ih0, ih1, ih2, ih3, ih4, ih5, ih6⟩ := topiaryref11_number.mono_l k
 unfold topiaryref11_number.f
 repeat' first
  | (with_reducible exact ih0 _ _ _ _ _)
  | (with_reducible exact ih1 _ _ _ _ _ _ _)
  | (with_reducible exact ih2 _ _ _ _ _ _ _ _)
  | (with_reducible exact ih3 _ _ _ _ _ _ _)
  | (with_reducible exact ih4 _ _ _ _ _ _ _ _)
  | (with_reducible exact ih5 _ _ _ _ _ _ _)
  | (with_reducible exact ih6 _ _ _ _ _ _ _ _)
  | (with_reducible exact LeO.refl _)
  | (with_reducible exact LeO.none _)
  | (with_reducible refine LeO.ite ?_ ?_)
  | (with_reducible refine LeO.bind ?_ (fun _ => ?_))
  | exact ih0 _ _ _ _ _
  | exact ih1 _ _ _ _ _ _ _
  | exact ih2 _ _ _ _ _ _ _ _
  | exact ih3 _ _ _ _ _ _ _
  | exact ih4 _ _ _ _ _ _ _ _
  | exact ih5 _ _ _ _ _ _ _
  | exact ih6 _ _ _ _ _ _ _ _
  | exact LeO.none _
  | refine LeO.ite ?_ ?_
  | refine LeO.bind ?_ (fun _ => ?_)
set_option maxHeartbeats 8000000 in
set_option maxRecDepth 100000 in
theorem topiaryref11_number.calls (k : Nat) (a0 : ByteArray) (a1 : Int) (a2 : Int) (r1 : Int) (r2 : Int) (w : World) (h : topiaryref11_number.f k a0 a1 a2 = some (r1, r2)) :
 Calls Tryz.prog 138 #[.string a0, .int .i64 a1, .int .i64 a2] w fun e w' => e = .returned (.tuple #[.int .i64 r1, .int .i64 r2]) ∧ Drawn0 w w' := by
 have H : (topiaryref11_number.l0 k a0 a1 a2 0 0) = some (r1, r2) := h
 clear h
 have H' := Aside0.mk H
 clear H
 go_enter Tryz.func138, Tryz.ntmps138
 go_wp2
 go_loopg [8, 9] k (fun kq v8 v9 w' => ∃ (x8_1 : Int) (x9_1 : Int), v8 = .int .i64 x8_1 ∧ v9 = .int .i64 x9_1 ∧ Aside0 (topiaryref11_number.l0 kq a0 a1 a2 x8_1 x9_1 = some (r1, r2)) ∧ Aside0 (kq ≤ k) ∧ Drawn0 w w')
 case atStart => exact ⟨(0), (0), (by rfl), (by rfl), H', ⟨Nat.le_refl _⟩, by repeat (exact Drawn0.refl _)⟩
 case round =>
  clear H'
  obtain ⟨x8_1, x9_1, rfl, rfl, HA, HK1, ⟨m1, rfl⟩⟩ := hrel
  cases gk with
  | zero => exact absurd HA.out (by simp [topiaryref11_number.l0])
  | succ k1 =>
   have H := HA.out
   clear HA
   simp only [topiaryref11_number.l0] at H
   by_cases c4 : x9_1 ≤ 8
   ·rw [if_pos c4] at H
    have c4b0 : decide (x9_1 ≤ 8) = true := decide_eq_true c4
    clear c4
    by_cases c5 : (wrap64 (a1 + x9_1)) ≥ (a0.size : Int)
    ·rw [if_pos c5] at H
     have c5b0 : decide ((a0.size : Int) ≤ (wrap64 (a1 + x9_1))) = true := decide_eq_true c5
     clear c5
     simp only [Option.some.injEq, Prod.mk.injEq] at H
     obtain ⟨rfl, rfl⟩ := H
     go_wp2
     go_ret2
     exact ⟨by rfl, by repeat (first | exact Drawn0.refl _ | apply Drawn0.step)⟩
    ·rw [if_neg c5] at H
     have c5b0 : decide ((a0.size : Int) ≤ (wrap64 (a1 + x9_1))) = false := decide_eq_false c5
     clear c5
     obtain ⟨ji6, hji6⟩ : ∃ j_ : Int, (wrap64 (a1 + x9_1)) = j_ := ⟨_, rfl⟩
     replace H : (if 0 ≤ (ji6) then (if (ji6) < (a0.size : Int) then (if (wrap64 (bt a0 (ji6))) = 59 then (topiaryref11_number.j1 k1 a0 a1 a2 x8_1 x9_1 (wrap64 (bt a0 (ji6))) (decide (x9_1 > 0))) else (topiaryref11_number.j1 k1 a0 a1 a2 x8_1 x9_1 (wrap64 (bt a0 (ji6))) false)) else (none)) else (none)) = some (r1, r2) := by ((rw [hji6] at H; exact H))
     (rw [hji6] at c5b0)
     have hji6w : (IntKind.i64.wrap (a1 + x9_1)) = ji6 := (i64_w _).trans hji6
     by_cases c7 : 0 ≤ (ji6)
     ·rw [if_pos c7] at H
      have c7b0 : decide (0 ≤ (ji6)) = true := decide_eq_true c7
      clear c7
      by_cases c8 : (ji6) < (a0.size : Int)
      ·rw [if_pos c8] at H
       have c8b0 : decide ((ji6) < (a0.size : Int)) = true := decide_eq_true c8
       clear c8
       have HC10 := Aside0.mk H
       clear H
       have p9 : 0 ≤ ((ji6) : Int) := of_decide_eq_true (by (with_reducible assumption))
       have q9 : (ji6) < (a0.size : Int) := of_decide_eq_true (by (with_reducible assumption))
       have hx9 := bt_at a0 (ji6)
       replace p9 := eq_true p9
       replace q9 := eq_true q9
       go_upto_region 8 with (fail)
       go_cut [33] (fun v33 wc => ∃ (kq : Nat) (x33_9 : Bool), v33 = .bool x33_9 ∧ Aside0 (topiaryref11_number.j1 kq a0 a1 a2 x8_1 x9_1 (wrap64 (bt a0 (ji6))) x33_9 = some (r1, r2)) ∧ Aside0 (kq ≤ k1) ∧ Drawn0 w wc)
       case first =>
        have H := HC10.out
        clear HC10
        revert H; refine X.ite_b (fun c11b0 c11b1 H => ?_) (fun c11b0 c11b1 H => ?_)
        rotate_left
        rotate_left
        all_goals
         have H' := Aside0.mk H
         clear H
         go_wp2
         go_meet
         case rel => first | (exact ⟨_, (decide (x9_1 > 0)), (by rfl), H', ⟨by have := HK1.out; first | omega | exact Nat.le_refl _⟩, by repeat (first | exact Drawn0.refl _ | apply Drawn0.step)⟩) | (exact ⟨_, (false), (by rfl), H', ⟨by have := HK1.out; omega⟩, by repeat (first | exact Drawn0.refl _ | apply Drawn0.step)⟩)
       case rest =>
        clear HC10
        clear c4b0
        clear c5b0
        clear c7b0
        clear c8b0
        clear p9
        clear q9
        clear hx9
        obtain ⟨kq, x33_9, rfl, HA, HJ9, ⟨mc9, rfl⟩⟩ := hcut
        cases kq with
        | zero => exact absurd HA.out (by simp [topiaryref11_number.j1])
        | succ kj9 =>
         have H := HA.out
         clear HA
         simp only [topiaryref11_number.j1] at H
         by_cases c12 : x33_9 = true
         ·subst c12
          rw [if_pos rfl] at H
          simp only [Option.some.injEq, Prod.mk.injEq] at H
          obtain ⟨rfl, rfl⟩ := H
          go_wp2
          go_ret2
          exact ⟨by rfl, by repeat (first | exact Drawn0.refl _ | apply Drawn0.step)⟩
         ·replace c12 := Bool.eq_false_iff.mpr c12
          subst c12
          rw [if_neg (show ¬ (false = true) by decide)] at H
          have HC13 := Aside0.mk H
          clear H
          go_upto_region 11 with (fail)
          go_cut [41] (fun v41 wc => ∃ (kq : Nat) (x41_12 : Bool), v41 = .bool x41_12 ∧ Aside0 (topiaryref11_number.j2 kq a0 a1 a2 x8_1 x9_1 (wrap64 (bt a0 (ji6))) 99 x41_12 = some (r1, r2)) ∧ Aside0 (kq ≤ kj9) ∧ Drawn0 w wc)
          case first =>
           have H := HC13.out
           clear HC13
           revert H; refine X.ite_d (c := 48 ≤ (wrap64 (bt a0 (ji6)))) (fun c14b0 H => ?_) (fun c14b0 H => ?_)
           rotate_left
           rotate_left
           all_goals
            have H' := Aside0.mk H
            clear H
            go_wp2
            go_meet
            case rel => first | (exact ⟨_, (decide ((wrap64 (bt a0 (ji6))) ≤ 57)), (by first | rfl | (simp only [← hji6] <;> (simp))), H', ⟨by have := HK1.out; have := HJ9.out; first | omega | exact Nat.le_refl _⟩, by repeat (first | exact Drawn0.refl _ | apply Drawn0.step)⟩) | (exact ⟨_, (false), (by rfl), H', ⟨by have := HK1.out; have := HJ9.out; omega⟩, by repeat (first | exact Drawn0.refl _ | apply Drawn0.step)⟩)
          case rest =>
           clear HC13
           obtain ⟨kq, x41_12, rfl, HA, HJ12, ⟨mc12, rfl⟩⟩ := hcut
           cases kq with
           | zero => exact absurd HA.out (by simp [topiaryref11_number.j2])
           | succ kj12 =>
            have H := HA.out
            clear HA
            simp only [topiaryref11_number.j2] at H
            have HC15 := Aside0.mk H
            clear H
            go_upto_if 41 with (fail)
            go_cut [11] (fun v11 wc => ∃ (kq : Nat) (x11_14 : Int), v11 = .int .i64 x11_14 ∧ Aside0 (topiaryref11_number.j3 kq a0 a1 a2 x8_1 x9_1 (wrap64 (bt a0 (ji6))) x11_14 = some (r1, r2)) ∧ Aside0 (kq ≤ kj12) ∧ Drawn0 w wc)
            case first =>
             have H := HC15.out
             clear HC15
             by_cases c16 : x41_12 = true
             subst c16
             rw [if_pos rfl] at H
             rotate_left
             replace c16 := Bool.eq_false_iff.mpr c16
             subst c16
             rw [if_neg (show ¬ (false = true) by decide)] at H
             rotate_left
             all_goals
              have H' := Aside0.mk H
              clear H
              go_wp2
              go_meet
              case rel => first | (exact ⟨_, (wrap64 ((wrap64 (bt a0 (ji6))) - 48)), (by first | rfl | (simp only [← hji6] <;> (simp))), H', ⟨by have := HK1.out; have := HJ9.out; have := HJ12.out; first | omega | exact Nat.le_refl _⟩, by repeat (first | exact Drawn0.refl _ | apply Drawn0.step)⟩) | (exact ⟨_, (99), (by rfl), H', ⟨by have := HK1.out; have := HJ9.out; have := HJ12.out; omega⟩, by repeat (first | exact Drawn0.refl _ | apply Drawn0.step)⟩)
            case rest =>
             clear HC15
             obtain ⟨kq, x11_14, rfl, HA, HJ14, ⟨mc14, rfl⟩⟩ := hcut
             cases kq with
             | zero => exact absurd HA.out (by simp [topiaryref11_number.j3])
             | succ kj14 =>
              have H := HA.out
              clear HA
              simp only [topiaryref11_number.j3] at H
              have HC17 := Aside0.mk H
              clear H
              go_upto_region 13 with (fail)
              go_cut [49] (fun v49 wc => ∃ (kq : Nat) (x49_16 : Bool), v49 = .bool x49_16 ∧ Aside0 (topiaryref11_number.j4 kq a0 a1 a2 x8_1 x9_1 (wrap64 (bt a0 (ji6))) x11_14 x49_16 = some (r1, r2)) ∧ Aside0 (kq ≤ kj14) ∧ Drawn0 w wc)
              case first =>
               have H := HC17.out
               clear HC17
               revert H; refine X.ite_d (c := 97 ≤ (wrap64 (bt a0 (ji6)))) (fun c18b0 H => ?_) (fun c18b0 H => ?_)
               rotate_left
               rotate_left
               all_goals
                have H' := Aside0.mk H
                clear H
                go_wp2
                go_meet
                case rel => first | (exact ⟨_, (decide ((wrap64 (bt a0 (ji6))) ≤ 102)), (by first | rfl | (simp only [← hji6] <;> (simp))), H', ⟨by have := HK1.out; have := HJ9.out; have := HJ12.out; have := HJ14.out; first | omega | exact Nat.le_refl _⟩, by repeat (first | exact Drawn0.refl _ | apply Drawn0.step)⟩) | (exact ⟨_, (false), (by rfl), H', ⟨by have := HK1.out; have := HJ9.out; have := HJ12.out; have := HJ14.out; omega⟩, by repeat (first | exact Drawn0.refl _ | apply Drawn0.step)⟩)
              case rest =>
               clear HC17
               obtain ⟨kq, x49_16, rfl, HA, HJ16, ⟨mc16, rfl⟩⟩ := hcut
               cases kq with
               | zero => exact absurd HA.out (by simp [topiaryref11_number.j4])
               | succ kj16 =>
                have H := HA.out
                clear HA
                simp only [topiaryref11_number.j4] at H
                have HC19 := Aside0.mk H
                clear H
                go_upto_if 49 with (fail)
                go_cut [11] (fun v11 wc => ∃ (kq : Nat) (x11_18 : Int), v11 = .int .i64 x11_18 ∧ Aside0 (topiaryref11_number.j5 kq a0 a1 a2 x8_1 x9_1 (wrap64 (bt a0 (ji6))) x11_18 = some (r1, r2)) ∧ Aside0 (kq ≤ kj16) ∧ Drawn0 w wc)
                case first =>
                 have H := HC19.out
                 clear HC19
                 by_cases c20 : x49_16 = true
                 subst c20
                 rw [if_pos rfl] at H
                 rotate_left
                 replace c20 := Bool.eq_false_iff.mpr c20
                 subst c20
                 rw [if_neg (show ¬ (false = true) by decide)] at H
                 rotate_left
                 all_goals
                  have H' := Aside0.mk H
                  clear H
                  go_wp2
                  go_meet
                  case rel => first | (exact ⟨_, (wrap64 ((wrap64 ((wrap64 (bt a0 (ji6))) - 97)) + 10)), (by first | rfl | (simp only [← hji6] <;> (simp))), H', ⟨by have := HK1.out; have := HJ9.out; have := HJ12.out; have := HJ14.out; have := HJ16.out; first | omega | exact Nat.le_refl _⟩, by repeat (first | exact Drawn0.refl _ | apply Drawn0.step)⟩) | (exact ⟨_, (x11_14), (by rfl), H', ⟨by have := HK1.out; have := HJ9.out; have := HJ12.out; have := HJ14.out; have := HJ16.out; omega⟩, by repeat (first | exact Drawn0.refl _ | apply Drawn0.step)⟩)
                case rest =>
                 clear HC19
                 obtain ⟨kq, x11_18, rfl, HA, HJ18, ⟨mc18, rfl⟩⟩ := hcut
                 cases kq with
                 | zero => exact absurd HA.out (by simp [topiaryref11_number.j5])
                 | succ kj18 =>
                  have H := HA.out
                  clear HA
                  simp only [topiaryref11_number.j5] at H
                  have HC21 := Aside0.mk H
                  clear H
                  go_upto_region 15 with (fail)
                  go_cut [58] (fun v58 wc => ∃ (kq : Nat) (x58_20 : Bool), v58 = .bool x58_20 ∧ Aside0 (topiaryref11_number.j6 kq a0 a1 a2 x8_1 x9_1 (wrap64 (bt a0 (ji6))) x11_18 x58_20 = some (r1, r2)) ∧ Aside0 (kq ≤ kj18) ∧ Drawn0 w wc)
                  case first =>
                   have H := HC21.out
                   clear HC21
                   revert H; refine X.ite_d (c := 65 ≤ (wrap64 (bt a0 (ji6)))) (fun c22b0 H => ?_) (fun c22b0 H => ?_)
                   rotate_left
                   rotate_left
                   all_goals
                    have H' := Aside0.mk H
                    clear H
                    go_wp2
                    go_meet
                    case rel => first | (exact ⟨_, (decide ((wrap64 (bt a0 (ji6))) ≤ 70)), (by first | rfl | (simp only [← hji6] <;> (simp))), H', ⟨by have := HK1.out; have := HJ9.out; have := HJ12.out; have := HJ14.out; have := HJ16.out; have := HJ18.out; first | omega | exact Nat.le_refl _⟩, by repeat (first | exact Drawn0.refl _ | apply Drawn0.step)⟩) | (exact ⟨_, (false), (by rfl), H', ⟨by have := HK1.out; have := HJ9.out; have := HJ12.out; have := HJ14.out; have := HJ16.out; have := HJ18.out; omega⟩, by repeat (first | exact Drawn0.refl _ | apply Drawn0.step)⟩)
                  case rest =>
                   clear HC21
                   obtain ⟨kq, x58_20, rfl, HA, HJ20, ⟨mc20, rfl⟩⟩ := hcut
                   cases kq with
                   | zero => exact absurd HA.out (by simp [topiaryref11_number.j6])
                   | succ kj20 =>
                    have H := HA.out
                    clear HA
                    simp only [topiaryref11_number.j6] at H
                    by_cases c23 : x58_20 = true
                    subst c23
                    rw [if_pos rfl] at H
                    revert H; refine X.ite_d (c := a2 ≤ (wrap64 ((wrap64 ((wrap64 (bt a0 (ji6))) - 65)) + 10))) (fun c24b0 H => ?_) (fun c24b0 H => ?_)
                    rotate_left
                    rotate_left
                    replace c23 := Bool.eq_false_iff.mpr c23
                    subst c23
                    rw [if_neg (show ¬ (false = true) by decide)] at H
                    revert H; refine X.ite_d (c := a2 ≤ x11_18) (fun c25b0 H => ?_) (fun c25b0 H => ?_)
                    rotate_left
                    rotate_left
                    all_goals first
                    | (simp only [Option.some.injEq, Prod.mk.injEq] at H
                       obtain ⟨rfl, rfl⟩ := H
                       go_wp2
                       go_ret2
                       exact ⟨by rfl, by repeat (first | exact Drawn0.refl _ | apply Drawn0.step)⟩)
                    | (have H' := Aside0.mk H
                       clear H
                       go_wp2
                       go_roundg kj20
                       case measure => have := HK1.out; have := HJ9.out; have := HJ12.out; have := HJ14.out; have := HJ16.out; have := HJ18.out; have := HJ20.out; omega
                       case rel => first | (exact ⟨(wrap64 ((wrap64 (x8_1 * a2)) + (wrap64 ((wrap64 ((wrap64 (bt a0 (ji6))) - 65)) + 10)))), (wrap64 (x9_1 + 1)), (by rfl), (by rfl), H', ⟨by have := HK1.out; have := HJ9.out; have := HJ12.out; have := HJ14.out; have := HJ16.out; have := HJ18.out; have := HJ20.out; omega⟩, by repeat (first | exact Drawn0.refl _ | apply Drawn0.step)⟩) | (exact ⟨(wrap64 ((wrap64 (x8_1 * a2)) + x11_18)), (wrap64 (x9_1 + 1)), (by rfl), (by rfl), H', ⟨by have := HK1.out; have := HJ9.out; have := HJ12.out; have := HJ14.out; have := HJ16.out; have := HJ18.out; have := HJ20.out; omega⟩, by repeat (first | exact Drawn0.refl _ | apply Drawn0.step)⟩))
      ·rw [if_neg c8] at H
       exact absurd H (by simp)
     ·rw [if_neg c7] at H
      exact absurd H (by simp)
   ·rw [if_neg c4] at H
    have c4b0 : decide (x9_1 ≤ 8) = false := decide_eq_false c4
    clear c4
    simp only [Option.some.injEq, Prod.mk.injEq] at H
    obtain ⟨rfl, rfl⟩ := H
    go_wp2
    go_ret2
    exact ⟨by rfl, by repeat (first | exact Drawn0.refl _ | apply Drawn0.step)⟩
def topiaryref11_Allowed.f (a0 : Int) : Option (Bool) := if a0 = 9 then (some true) else (if a0 = 10 then (some true) else (if a0 = 13 then (some true) else (if a0 ≥ 32 then (if a0 ≤ 55295 then (some true) else (if a0 ≥ 57344 then (if a0 ≤ 65533 then (some true) else (if a0 ≥ 65536 then (some (decide (a0 ≤ 1114111))) else (some false))) else (if a0 ≥ 65536 then (some (decide (a0 ≤ 1114111))) else (some false)))) else (if a0 ≥ 57344 then (if a0 ≤ 65533 then (some true) else (if a0 ≥ 65536 then (some (decide (a0 ≤ 1114111))) else (some false))) else (if a0 ≥ 65536 then (some (decide (a0 ≤ 1114111))) else (some false))))))
def topiaryref11_point.f (a0 : Int) : Option (Bool) := if a0 ≥ 0 then (if a0 ≤ 1114111 then (if a0 < 55296 then (some true) else (some (decide (a0 > 57343)))) else (some false)) else (some false)
def topiaryref11_Encode.f (a0 : Int) : Option (ByteArray) := (topiaryref11_point.f a0).bind fun t101 => (if t101 = true then (if a0 ≤ 127 then (some (strOfNums (([(a0) % 256] : List Int)))) else (if a0 ≤ 2047 then (some (strOfNums (([(wrap64 (192 + (wrap64 (Int.tdiv a0 64)))) % 256, (wrap64 (128 + (Int.tmod a0 64))) % 256] : List Int)))) else (if a0 ≤ 65535 then (some (strOfNums (([(wrap64 (224 + (wrap64 (Int.tdiv a0 4096)))) % 256, (wrap64 (128 + (wrap64 (Int.tdiv (Int.tmod a0 4096) 64)))) % 256, (wrap64 (128 + (Int.tmod a0 64))) % 256] : List Int)))) else (some (strOfNums (([(wrap64 (240 + (wrap64 (Int.tdiv a0 262144)))) % 256, (wrap64 (128 + (wrap64 (Int.tdiv (Int.tmod a0 262144) 4096)))) % 256, (wrap64 (128 + (wrap64 (Int.tdiv (Int.tmod a0 4096) 64)))) % 256, (wrap64 (128 + (Int.tmod a0 64))) % 256] : List Int))))))) else (some (⟨#[]⟩ : ByteArray)))
end Go.Proofs.YtlhhhlimjajnlaaGreat.Q
end
section
namespace Go.Proofs.YtlhhhlimjajnlaaGreat.X
end Go.Proofs.YtlhhhlimjajnlaaGreat.X
namespace Go.Proofs.YtlhhhlimjajnlaaGreat.Q
open Go.RowKit Go.Proofs.YtlhhhlimjajnlaaGreatW.PrintWords Go.Proofs.YtlhhhlimjajnlaaGreatW.PrintLast Go.Proofs.YtlhhhlimjajnlaaGreatW.PrintMore
attribute [local go_sem] max2_int min2_int max_two min_two max_three min_three max_four min_four   
open Go.Proofs.YtlhhhlimjajnlaaGreat.X
set_option linter.unusedVariables false
set_option linter.unusedSimpArgs false
def topiaryref12_begins.f (a0 : ByteArray) (a1 : Int) (a2 : ByteArray) : Option (Bool) := if (wrap64 (a1 + (a2.size : Int))) ≤ (a0.size : Int) then (if 0 ≤ a1 then (if a1 ≤ (wrap64 (a1 + (a2.size : Int))) then (some ((a0.extract (a1 : Int).toNat ((wrap64 (a1 + (a2.size : Int))) : Int).toNat).toList == a2.toList)) else (none)) else (none)) else (some false)
def topiaryref12_find.l0 : Nat → ByteArray → ByteArray → Int → Option (Int)
 | 0, _, _, _ => none
 | k + 1, x0, x2, x7 => if (wrap64 (x7 + (x2.size : Int))) ≤ (x0.size : Int) then (if 0 ≤ x7 then (if x7 ≤ (wrap64 (x7 + (x2.size : Int))) then (if (x0.extract (x7 : Int).toNat ((wrap64 (x7 + (x2.size : Int))) : Int).toNat).toList = x2.toList then (some x7) else (topiaryref12_find.l0 k x0 x2 (wrap64 (x7 + 1)))) else (none)) else (none)) else (some (-1))
def topiaryref12_find.f (k : Nat) (a0 : ByteArray) (a1 : Int) (a2 : ByteArray) : Option (Int) := topiaryref12_find.l0 k a0 a2 a1
theorem topiaryref12_find.mono_l : ∀ k, (∀ y0 y1 y2, LeO (topiaryref12_find.l0 k y0 y1 y2) (topiaryref12_find.l0 (k + 1) y0 y1 y2))
 | 0 => fun _ _ _ r h => by simp [topiaryref12_find.l0] at h
 | k + 1 => by
  have ih0 := topiaryref12_find.mono_l k
  ·intro y0 y1 y2
   unfold topiaryref12_find.l0
   repeat' first
   | (with_reducible exact ih0 _ _ _)
   | (with_reducible exact LeO.refl _)
   | (with_reducible exact LeO.none _)
   | (with_reducible refine LeO.ite ?_ ?_)
   | (with_reducible refine LeO.bind ?_ (fun _ => ?_))
   | exact ih0 _ _ _
   | exact LeO.none _
   | refine LeO.ite ?_ ?_
   | refine LeO.bind ?_ (fun _ => ?_)
theorem topiaryref12_find.mono : ∀ a0 a1 a2 k, LeO (topiaryref12_find.f k a0 a1 a2) (topiaryref12_find.f (k + 1) a0 a1 a2) := by
 intro a0 a1 a2 k
 have ih0 := topiaryref12_find.mono_l k
 unfold topiaryref12_find.f
 repeat' first
  | (with_reducible exact ih0 _ _ _)
  | (with_reducible exact LeO.refl _)
  | (with_reducible exact LeO.none _)
  | (with_reducible refine LeO.ite ?_ ?_)
  | (with_reducible refine LeO.bind ?_ (fun _ => ?_))
  | exact ih0 _ _ _
  | exact LeO.none _
  | refine LeO.ite ?_ ?_
  | refine LeO.bind ?_ (fun _ => ?_)
end Go.Proofs.YtlhhhlimjajnlaaGreat.Q
end
