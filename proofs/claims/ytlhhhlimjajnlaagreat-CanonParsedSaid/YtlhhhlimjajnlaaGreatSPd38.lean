/- Parts of the proof of canonParsed_holds, kept and merged by a program of mine (wip/tools/slim.py) out of my texts: P14y -/
import Derived.Test.YtlhhhlimjajnlaaGreatSPd35
import Derived.Test.YtlhhhlimjajnlaaGreatSPd36
import Derived.Test.YtlhhhlimjajnlaaGreatSPd37
import Derived.Test.YtlhhhlimjajnlaaGreatSPd27
import Derived.Test.YtlhhhlimjajnlaaGreatSPd34
section
set_option linter.unusedVariables false
set_option linter.unusedSimpArgs false
namespace Go.Proofs.YtlhhhlimjajnlaaGreat.P14
open Go.RowKit Go.Proofs.YtlhhhlimjajnlaaGreat Go.Proofs.YtlhhhlimjajnlaaGreat.Q Go.Proofs.YtlhhhlimjajnlaaGreatW.PrintWords Go.Proofs.YtlhhhlimjajnlaaGreat.X Go.Proofs.YtlhhhlimjajnlaaGreat.Ck Go.Proofs.YtlhhhlimjajnlaaGreat.P12 Go.Proofs.YtlhhhlimjajnlaaGreat.R13
theorem write_out {N : List ByteArray} {D : List Nod} (h : checkV N D = 0) (hl : (endW N D).out.length ≤ 65536) : writeV N D = (bytesL (endW N D).out, 0) := by
 unfold writeV
 rw [if_pos h, if_neg (by omega)]; rfl
theorem canon_out {N : List ByteArray} {D : List Nod} (h : checkV N D = 0) (hl : (endW N D).out.length ≤ 65536) (hs1 : ∀ x, x ∈ N → x.size ≤ 1000000000) (hs2 : ∀ x, x ∈ D → x.f3.size ≤ 1000000000) (s : ByteArray) (hs : s.size ≤ 65536) (hp : parseV s = ((N, D), 0)) : canon_Canon.f s = some (bytesL (endW N D).out, 0) := by
 have hw : smallW N D = true := by
  unfold smallW
  rw [Bool.and_eq_true, List.all_eq_true, List.all_eq_true]
  exact ⟨fun x hx => decide_eq_true (hs2 x hx), fun x hx => decide_eq_true (hs1 x hx)⟩
 unfold canon_Canon.f parser_Parse.f
 rw [if_pos (by omega), hp, Option.bind_some]
 simp only
 rw [if_pos trivial, canon_Write.f, if_pos hw, write_out h hl]; rfl
end Go.Proofs.YtlhhhlimjajnlaaGreat.P14
end
