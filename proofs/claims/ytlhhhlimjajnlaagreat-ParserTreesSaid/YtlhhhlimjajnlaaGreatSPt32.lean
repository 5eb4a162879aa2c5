/- Parts of the proof of parserTrees_holds, kept and merged by a program of mine (wip/tools/slim.py) out of my texts: PureParserTrees -/
import Derived.Test.YtlhhhlimjajnlaaGreatSPt28
import Derived.Test.YtlhhhlimjajnlaaGreatSPt23
import Derived.Test.YtlhhhlimjajnlaaGreatSPt31
section
set_option linter.unusedVariables false
set_option linter.unusedSimpArgs false
namespace Go.Proofs.YtlhhhlimjajnlaaGreat.Pure
open Go.RowKit Go.Proofs.YtlhhhlimjajnlaaGreat Go.Proofs.YtlhhhlimjajnlaaGreat.Q Go.Proofs.YtlhhhlimjajnlaaGreatW.PrintWords Go.Proofs.YtlhhhlimjajnlaaGreat.X Go.Proofs.YtlhhhlimjajnlaaGreat.P13
theorem ParserTrees : L3_ParserTrees.Pure := by
 intro a0 _
 obtain ⟨s, hs, hsz, _⟩ := short13 a0 200
 rw [show ((200 : Nat) : Int) = 200 from rfl] at hs
 obtain ⟨K1, hK1⟩ := R13.ref_parse_short s (by omega)
 obtain ⟨l1, l2⟩ := R13.parse_lens s
 obtain ⟨K2, hK2⟩ := R13.same_refl (parseV s).1.1 (parseV s).1.2 (by omega) (by omega)
 refine ⟨K1 + K2, ?_⟩
 have h1 : R3_Parse.f (K1 + K2) s = some ((parseV s).1.1, (parseV s).1.2, (parseV s).2) := hK1 _ (by omega)
 have h2 : R3_Same.f (K1 + K2) (parseV s).1.1 (parseV s).1.2 (parseV s).1.1 (parseV s).1.2 = some true := hK2 _ (by omega)
 unfold L3_ParserTrees.f
 rw [awake13, Option.bind_some, hs, Option.bind_some, parser_Parse.f, if_pos (by omega), Option.bind_some, h1, Option.bind_some]
 simp only
 rw [h2, Option.bind_some]
 simp
end Go.Proofs.YtlhhhlimjajnlaaGreat.Pure
end
