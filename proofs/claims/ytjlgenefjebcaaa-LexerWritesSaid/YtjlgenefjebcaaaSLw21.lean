/- Parts of the proof of lexerWrites_holds, kept and merged by a program of mine (wip/tools/slim.py) out of my texts: OpL -/
import Derived.SliceStrings
import Derived.OpenShut
import Derived.Lib.SmallJoins
import Derived.ChangeArms
import Derived.Test.YtjlgenefjebcaaaSLw9
section
set_option linter.unusedVariables false
set_option linter.unusedSimpArgs false
namespace Go.Proofs.Ytjlgenefjebcaaa.X
open Go.RowKit Go.ChangeShapes Go.WideShapes Go.ChangeAt Go.Joins Go.Proofs.Ytjlgenefjebcaaa Go.Proofs.Ytjlgenefjebcaaa.Q Go.Proofs.YtjlgenefjebcaaaW.PrintWords
section
variable {H : Type} {enc : TypeId × Value → H} {W : World} {base : Nat} {spare : Nat → Bool} {held : Bool}
theorem open_texts {r : Reach} {b0 : Nat} {v : Value} {d : DataW H} {p : List MemPlace} (hv : Value.okWide Try.prog W r b0 33 v) (h : DataW.Trod enc Try.prog W base spare held 33 v d p) :
    ∃ (A : Option Addr) (c : Nat) (N : List ByteArray), v = .slice A N.length c ∧ Kd.C Kd.string W A N.length N ∧ N.length ≤ c := by
  obtain ⟨a0, l0, c0, rfl⟩ := okWide_slice Try.underlying33 hv
  obtain ⟨fuel, h⟩ := h
  rcases open_strings Try.underlying33 Try.underlying9 (by kernel_rfl) h with ⟨hcs, _⟩ | ⟨a, len, cap, ss, hcs, _, hl, hm, hz, _, hcell, _⟩
  · simp [Value.cells] at hcs
    obtain ⟨rfl, rfl, rfl⟩ := hcs
    exact ⟨none, 0, [], rfl, ⟨rfl, by simp, fun h => absurd h (by simp)⟩, Nat.le_refl _⟩
  · simp [Value.cells] at hcs
    obtain ⟨rfl, rfl, rfl⟩ := hcs
    have hlen : l0 ≤ ss.length := by rw [hz]; split <;> omega
    have ht : (ss.take l0).length = l0 := by rw [List.length_take]; omega
    refine ⟨some a, c0, ss.take l0, by rw [ht], ?_, by rw [ht]; exact hl⟩
    rw [ht]
    refine Kd.C_of_reads (d := ByteArray.empty) (h1 := fun _ => rfl) ⟨ht, by unfold maxLen at hm; omega, fun _ => ⟨a, rfl, fun j hj => ?_⟩⟩
    rw [hcell j (by omega), List.getD_eq_getElem?_getD, List.getD_eq_getElem?_getD, List.getElem?_take_of_lt hj]
theorem open_bytes {r : Reach} {b0 : Nat} {v : Value} {d : DataW H} {p : List MemPlace} (hv : Value.okWide Try.prog W r b0 32 v) (h : DataW.Trod enc Try.prog W base spare held 32 v d p) :
    ∃ (A : Option Addr) (c : Nat) (l : List Int), v = .slice A l.length c ∧ Kd.C (Kd.int .u8) W A l.length l ∧ l.length ≤ c ∧ ∀ n, n ∈ l → 0 ≤ n ∧ n ≤ 255 := by
  obtain ⟨a0, l0, c0, rfl⟩ := okWide_slice Try.underlying32 hv
  obtain ⟨fuel, h⟩ := h
  rcases open_ints Try.underlying32 Try.underlying5 (by kernel_rfl) h with ⟨hcs, _⟩ | ⟨a, len, cap, ss, hcs, _, hl, hm, hz, _, hcell, hwf⟩
  · simp [Value.cells] at hcs
    obtain ⟨rfl, rfl, rfl⟩ := hcs
    exact ⟨none, 0, [], rfl, ⟨rfl, by simp, fun h => absurd h (by simp)⟩, Nat.le_refl _, fun n hn => by cases hn⟩
  · simp [Value.cells] at hcs
    obtain ⟨rfl, rfl, rfl⟩ := hcs
    have hlen : l0 ≤ ss.length := by rw [hz]; split <;> omega
    have ht : (ss.take l0).length = l0 := by rw [List.length_take]; omega
    refine ⟨some a, c0, ss.take l0, by rw [ht], ?_, by rw [ht]; exact hl, fun n hn => ?_⟩
    · rw [ht]
      refine Kd.C_of_reads (d := 0) (h1 := fun _ => rfl) ⟨ht, by unfold maxLen at hm; omega, fun _ => ⟨a, rfl, fun j hj => ?_⟩⟩
      rw [hcell j (by omega), List.getD_eq_getElem?_getD, List.getD_eq_getElem?_getD, List.getElem?_take_of_lt hj]
    · have := hwf n (List.mem_of_mem_take hn)
      simp [Lit.wf, IntKind.min, IntKind.max, IntKind.signed, IntKind.bits] at this
      omega
theorem open_two {r : Reach} {b0 : Nat} {v : Value} {d : DataW H} {p : List MemPlace} (hv : Value.okWide Try.prog W r b0 34 v) (h : DataW.Trod enc Try.prog W base spare held 34 v d p) :
    ∃ q0 q1 : Int, v = .agg #[.int .i64 q0, .int .i64 q1] := by
  simp only [Value.okWide, Try.underlying34] at hv
  obtain ⟨cs, rfl, hsz, -⟩ := hv
  obtain ⟨fuel, h⟩ := h
  obtain ⟨xs, m, -, -, hl, hx, hel⟩ := DataW.trod_array Try.underlying34 h
  have h2 : Try.prog.cellsOf 34 = 2 := by kernel_rfl
  have h1 : Try.prog.cellsOf 3 = 1 := by kernel_rfl
  obtain ⟨c0, c1, rfl⟩ := Go.Joins.array2 (hsz.trans h2)
  have e0 := hel 0 (by omega)
  have e1 := hel 1 (by omega)
  rw [h1] at e0 e1
  simp [Value.cells] at e0 e1
  rw [List.getElem?_eq_getElem (by omega)] at e0 e1
  obtain ⟨m0, k0, -, -⟩ := DataW.trod_int Try.underlying3 e0
  obtain ⟨m1, k1, -, -⟩ := DataW.trod_int Try.underlying3 e1
  simp at k0 k1
  exact ⟨m0, m1, by rw [k0, k1]⟩
end
end Go.Proofs.Ytjlgenefjebcaaa.X
end
