/- Parts of the proof of canonSpoilt_holds, kept and merged by a program of mine (wip/tools/slim.py) out of my texts: OpS -/
import Derived.SliceStrings
import Derived.OpenShut
import Derived.Lib.SmallJoins
import Derived.ChangeArms
import Derived.Test.YtlhhhlimjajnlaaGreatSSp9
section
set_option linter.unusedVariables false
set_option linter.unusedSimpArgs false
namespace Go.Proofs.YtlhhhlimjajnlaaGreat.X
open Go.RowKit Go.ChangeShapes Go.WideShapes Go.ChangeAt Go.Joins Go.Proofs.YtlhhhlimjajnlaaGreat Go.Proofs.YtlhhhlimjajnlaaGreat.Q Go.Proofs.YtlhhhlimjajnlaaGreatW.PrintWords
section
variable {H : Type} {enc : TypeId × Value → H} {W : World} {base : Nat} {spare : Nat → Bool} {held : Bool}
theorem array3 {cs : Array Value} (h : cs.size = 3) : ∃ a b c, cs = #[a, b, c] := by
 obtain ⟨l⟩ := cs
 match l, h with
 | [a, b, c], _ => exact ⟨a, b, c, rfl⟩
set_option maxRecDepth 100000 in
theorem open_three {r : Reach} {b0 : Nat} {v : Value} {d : DataW H} {p : List MemPlace} (hv : Value.okWide Tryz.prog W r b0 39 v) (h : DataW.Trod enc Tryz.prog W base spare held 39 v d p) :
 ∃ q0 q1 q2 : Int, v = .agg #[.int .i64 q0, .int .i64 q1, .int .i64 q2] := by
 simp only [Value.okWide, Tryz.underlying39] at hv
 obtain ⟨cs, rfl, hsz, -⟩ := hv
 obtain ⟨fuel, h⟩ := h
 obtain ⟨xs, m, -, -, hl, hx, hel⟩ := DataW.trod_array Tryz.underlying39 h
 have h2 : Tryz.prog.cellsOf 39 = 3 := by kernel_rfl
 have h1 : Tryz.prog.cellsOf 3 = 1 := by kernel_rfl
 obtain ⟨c0, c1, c2, rfl⟩ := array3 (hsz.trans h2)
 have e0 := hel 0 (by omega)
 have e1 := hel 1 (by omega)
 have e2 := hel 2 (by omega)
 rw [h1] at e0 e1 e2
 simp [Value.cells] at e0 e1 e2
 rw [List.getElem?_eq_getElem (by omega)] at e0 e1 e2
 obtain ⟨m0, k0, -, -⟩ := DataW.trod_int Tryz.underlying3 e0
 obtain ⟨m1, k1, -, -⟩ := DataW.trod_int Tryz.underlying3 e1
 obtain ⟨m2, k2, -, -⟩ := DataW.trod_int Tryz.underlying3 e2
 simp at k0 k1 k2
 exact ⟨m0, m1, m2, by rw [k0, k1, k2]⟩
end
end Go.Proofs.YtlhhhlimjajnlaaGreat.X
end
