/- Parts of the proof of canonBack_holds, kept and merged by a program of mine (wip/tools/slim.py) out of my texts: OpT -/
import Derived.SliceStrings
import Derived.Lib.SmallJoins
import Derived.ChangeArms
import Derived.Test.YtlhhhlimjajnlaaGreatSBk9
section
set_option linter.unusedVariables false
set_option linter.unusedSimpArgs false
namespace Go.Proofs.YtlhhhlimjajnlaaGreat.X
open Go.RowKit Go.ChangeShapes Go.WideShapes Go.ChangeAt Go.Joins Go.Proofs.YtlhhhlimjajnlaaGreat Go.Proofs.YtlhhhlimjajnlaaGreat.Q Go.Proofs.YtlhhhlimjajnlaaGreatW.PrintWords Go.Proofs.YtlhhhlimjajnlaaGreatW.PrintLast Go.Proofs.YtlhhhlimjajnlaaGreatW.PrintMore
section
variable {H : Type} {enc : TypeId × Value → H} {W : World} {base : Nat} {spare : Nat → Bool} {held : Bool}
theorem open_names {fuel : Nat} {v : Value} {y : DataW H × List MemPlace} (h : DataW.trod enc Tryz.prog W base spare held fuel 24 [v] = some y) :
 ∃ (A : Option Addr) (c : Nat) (N : List ByteArray), v = .slice A N.length c ∧ Kd.C Kd.string W A N.length N ∧ N.length ≤ c := by
 rcases open_strings Tryz.underlying24 Tryz.underlying9 (by kernel_rfl) h with ⟨hcs, _⟩ | ⟨a, len, cap, ss, hcs, _, hl, hm, hz, _, hcell, _⟩
 ·obtain rfl : v = .slice none 0 0 := by simpa using hcs
  exact ⟨none, 0, [], rfl, ⟨rfl, by simp, fun h => absurd h (by simp)⟩, Nat.le_refl _⟩
 ·obtain rfl : v = .slice (some a) len cap := by simpa using hcs
  have hlen : len ≤ ss.length := by rw [hz]; split <;> omega
  have ht : (ss.take len).length = len := by rw [List.length_take]; omega
  refine ⟨some a, cap, ss.take len, by rw [ht], ?_, by rw [ht]; exact hl⟩
  rw [ht]
  refine Kd.C_of_reads (d := ByteArray.empty) (h1 := fun _ => rfl) ⟨ht, by unfold maxLen at hm; omega, fun _ => ⟨a, rfl, fun j hj => ?_⟩⟩
  rw [hcell j (by omega), List.getD_eq_getElem?_getD, List.getD_eq_getElem?_getD, List.getElem?_take_of_lt hj]
theorem addr_add (a : Addr) (m n : Nat) : (a.add m).add n = a.add (m + n) := by
 by_cases hm : m = 0
 ·subst hm; simp [Addr.add]
 ·by_cases hn : n = 0
  ·subst hn; simp [Addr.add]
  ·simp [Addr.add, hm, hn, Nat.add_assoc]
def nodOf (y : DataW H × List MemPlace) : Nod := match y.1 with
 | .agg [.lit (.int _ a), .lit (.int _ b), .lit (.int _ c), .lit (.string s)] => ⟨a, b, c, ⟨s.toArray⟩⟩
 | _ => ⟨0, 0, 0, ⟨#[]⟩⟩
set_option maxRecDepth 100000 in
theorem open_nodes {fuel : Nat} {v : Value} {y : DataW H × List MemPlace} (h : DataW.trod enc Tryz.prog W base spare held fuel 25 [v] = some y) :
 ∃ (A : Option Addr) (c : Nat) (D : List Nod), v = .slice A D.length c ∧ Kd.C k41 W A D.length D ∧ D.length ≤ c := by
 rcases DataW.trod_slice Tryz.underlying25 h with ⟨hcs, _⟩ | ⟨a, len, cap, elems, rest, n, _, hcs, _, hb, hl, hm, hlen, hel, -, -⟩
 ·obtain rfl : v = .slice none 0 0 := by simpa using hcs
  exact ⟨none, 0, [], rfl, ⟨rfl, by simp, fun h => absurd h (by simp)⟩, Nat.le_refl _⟩
 ·obtain rfl : v = .slice (some a) len cap := by simpa using hcs
  have hc4 : Tryz.prog.cellsOf 41 = 4 := by kernel_rfl
  have ht : (elems.map nodOf).length = len := by rw [List.length_map]; exact hlen
  refine ⟨some a, cap, elems.map nodOf, by rw [ht], ?_, by rw [ht]; exact hl⟩
  rw [ht]
  refine ⟨ht, by unfold maxLen at hm; omega, fun _ => ⟨a, rfl, fun j p hj => ?_⟩⟩
  rw [List.getElem?_map, Option.map_eq_some_iff] at hj
  obtain ⟨z, hz, rfl⟩ := hj
  have hjl : j < len := by rw [← hlen]; exact (List.getElem?_eq_some_iff.1 hz).1
  have he := hel j hjl
  rw [hz, hc4, Option.bind_eq_some_iff] at he
  obtain ⟨cs, hcs, htr⟩ := he
  obtain ⟨-, hcl, hcell⟩ := World.cells?_some hcs
  obtain ⟨y0, y1, y2, y3, n', hzz, -, h0, h1, h2, h3⟩ := trod_struct4 Tryz.underlying41 htr
  obtain ⟨c0, c1, c2, c3, rfl⟩ : ∃ c0 c1 c2 c3, cs = [c0, c1, c2, c3] := by
   match cs, hcl with
   | [a, b, c, d], _ => exact ⟨a, b, c, d, rfl⟩
  have e1 : Tryz.prog.cellsOf 3 = 1 := by kernel_rfl
  have e2 : Tryz.prog.cellsOf 9 = 1 := by kernel_rfl
  simp [e1] at h0 h1 h2
  simp [e2] at h3
  obtain ⟨m0, q0, q0', -⟩ := DataW.trod_int Tryz.underlying3 h0
  obtain ⟨m1, q1, q1', -⟩ := DataW.trod_int Tryz.underlying3 h1
  obtain ⟨m2, q2, q2', -⟩ := DataW.trod_int Tryz.underlying3 h2
  obtain ⟨s, q3, q3', -⟩ := DataW.trod_string Tryz.underlying9 h3
  simp at q0 q1 q2 q3
  subst q0 q1 q2 q3 q0' q1' q2' q3'
  have hN : nodOf z = ⟨m0, m1, m2, s⟩ := by rw [hzz]; rfl
  rw [hN]
  refine ⟨[.int .i64 m0, .int .i64 m1, .int .i64 m2, .string s], rfl, k41_mk W ⟨m0, m1, m2, s⟩, fun i u hu => ?_⟩
  have hi : i < 4 := (List.getElem?_eq_some_iff.1 hu).1
  have h := hcell i hi
  rw [hu] at h
  rw [← h]
  show W.cell? (a.add (j * 4 + i)) = W.cell? ((a.add (j * 4)).add i)
  rw [addr_add]
set_option maxRecDepth 100000 in
theorem open_tree {r : Reach} {b0 : Nat} {v : Value} {d : DataW H} {p : List MemPlace} (hv : Value.okWide Tryz.prog W r b0 27 v) (h : DataW.Trod enc Tryz.prog W base spare held 27 v d p) :
 ∃ (A0 : Option Addr) (c0 : Nat) (N : List ByteArray) (A1 : Option Addr) (c1 : Nat) (D : List Nod), v = .agg #[.slice A0 N.length c0, .slice A1 D.length c1] ∧ Kd.C Kd.string W A0 N.length N ∧ N.length ≤ c0 ∧ Kd.C k41 W A1 D.length D ∧ D.length ≤ c1 := by
 obtain ⟨v0, v1, y0, y1, n, rfl, -, -, h0, h1⟩ := open_agg2 Tryz.underlying27 (by kernel_rfl) (by kernel_rfl) hv h
 obtain ⟨A0, c0, N, rfl, hN, hc0⟩ := open_names h0
 obtain ⟨A1, c1, D, rfl, hD, hc1⟩ := open_nodes h1
 exact ⟨A0, c0, N, A1, c1, D, rfl, hN, hc0, hD, hc1⟩
end
end Go.Proofs.YtlhhhlimjajnlaaGreat.X
end
