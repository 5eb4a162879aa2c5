/-
  No cell of these rows narrows 'for every input' (looked for: loops, veiled, ifaces, maps, wideKeys, modest, calm, conditions, laid).
  DERIVED. THE GIVEN ROWS OF THIS SEAT. 4 by the template 'for every input the law returns true; each argument reads behind the call as it read before'; 0 by the template 'total and deterministic' (their statements: YtlhhhlimjajnlaaTotals.lean).
  GIVEN WITH THE SEED: the statements are not yours to turn. If you find one false, say at which input.
  Laid BY PROGRAM, IN A SANDBOX (cutbox-rows.mjs): the forced cells as the released guide's own fill.sh prints them over the translation fcc8257b921582cf… (all of the seat's roots in one cut). By AI agents, Wed Nov 11 2026. No macro, syntax, notation, axiom, sorry.
-/
import Derived.Test.YtlhhhlimjajnlaaChecked
import GoSem.Claim
import GoSem.ClaimJoined
import GoSem.ClaimMapViews
import Derived.JoinedTies
import Derived.KernelRfl
namespace Go.Proofs.Ytlhhhlimjajnlaa
/- THE CELL 'sum', in the pinned program and in every row, IS THE sha256 OF THE DUMP (.gsa) THAT YtlhhhlimjajnlaaProg.lean LOADS. Nothing in Lean hashes anything: it is a label: what it is worth is what the hold of that sum in a sandbox is worth. -/
noncomputable def Try.pinned : Pinned := { name := "ytlhhhlimjajnlaa", sum := "fcc8257b921582cf3b4bee394871669bfe15f59fbc061fd07eff9b5003c992cb", checked := Try.checked }
namespace Rows
def none {H : Type} : Left H := { results := [], args := [] }

/-- 'topiarylaw13.ParserStands': WHATEVER THE INPUT: true; the input reads as it did. -/
def parserStandsSpec : ChangeSpec := { name := "parserStands", fn := fun _ => fun
  | [d] => { results := [.lit (.bool true)], args := [d] }
  | _ => none }
def parserStandsRow : OpenClaim := { program := "ytlhhhlimjajnlaa", sum := "fcc8257b921582cf3b4bee394871669bfe15f59fbc061fd07eff9b5003c992cb", func := "topiary/topiarylaw13.ParserStands", spec := "parserStands", inPlace := ["internal/bytealg.IndexByteString", "internal/bytealg.IndexString", "internal/abi.NoEscape"], unfollowed := true, recurses := true, named := ["internal/bytealg.MaxLen"], apart := false }
def ParserStandsSaid : Prop := parserStandsRow.holds Try.pinned (OpenSpec.ofChange parserStandsSpec)

/-- ITS FALSE NEIGHBOUR: 'it returns false'. Refute it at one input. -/
def parserStandsWrong : ChangeSpec := { name := "parserStands", fn := fun _ => fun
  | [d] => { results := [.lit (.bool false)], args := [d] }
  | _ => none }
def ParserStandsWrongFalsely : Prop := parserStandsRow.holds Try.pinned (OpenSpec.ofChange parserStandsWrong)

/-- 'topiarylaw13.ParserPasses': WHATEVER THE INPUT: true; the input reads as it did. -/
def parserPassesSpec : ChangeSpec := { name := "parserPasses", fn := fun _ => fun
  | [d1, d2, d3] => { results := [.lit (.bool true)], args := [d1, d2, d3] }
  | _ => none }
def parserPassesRow : OpenClaim := { program := "ytlhhhlimjajnlaa", sum := "fcc8257b921582cf3b4bee394871669bfe15f59fbc061fd07eff9b5003c992cb", func := "topiary/topiarylaw13.ParserPasses", spec := "parserPasses", inPlace := ["internal/bytealg.IndexByteString", "internal/bytealg.IndexString", "internal/abi.NoEscape"], unfollowed := true, recurses := true, named := ["internal/bytealg.MaxLen"], apart := false }
def ParserPassesSaid : Prop := parserPassesRow.holds Try.pinned (OpenSpec.ofChange parserPassesSpec)

/-- ITS FALSE NEIGHBOUR: 'it returns false'. Refute it at one input. -/
def parserPassesWrong : ChangeSpec := { name := "parserPasses", fn := fun _ => fun
  | [d1, d2, d3] => { results := [.lit (.bool false)], args := [d1, d2, d3] }
  | _ => none }
def ParserPassesWrongFalsely : Prop := parserPassesRow.holds Try.pinned (OpenSpec.ofChange parserPassesWrong)

/-- 'topiarylaw13.ParserNests': WHATEVER THE INPUT: true; the input reads as it did. -/
def parserNestsSpec : ChangeSpec := { name := "parserNests", fn := fun _ => fun
  | [d] => { results := [.lit (.bool true)], args := [d] }
  | _ => none }
def parserNestsRow : OpenClaim := { program := "ytlhhhlimjajnlaa", sum := "fcc8257b921582cf3b4bee394871669bfe15f59fbc061fd07eff9b5003c992cb", func := "topiary/topiarylaw13.ParserNests", spec := "parserNests", inPlace := ["internal/bytealg.IndexByteString", "internal/bytealg.IndexString", "internal/abi.NoEscape"], unfollowed := true, recurses := true, named := ["internal/bytealg.MaxLen"], apart := false }
def ParserNestsSaid : Prop := parserNestsRow.holds Try.pinned (OpenSpec.ofChange parserNestsSpec)

/-- ITS FALSE NEIGHBOUR: 'it returns false'. Refute it at one input. -/
def parserNestsWrong : ChangeSpec := { name := "parserNests", fn := fun _ => fun
  | [d] => { results := [.lit (.bool false)], args := [d] }
  | _ => none }
def ParserNestsWrongFalsely : Prop := parserNestsRow.holds Try.pinned (OpenSpec.ofChange parserNestsWrong)

/-- 'topiarylaw13.ParserDeep': WHATEVER THE INPUT: true; the input reads as it did. -/
def parserDeepSpec : ChangeSpec := { name := "parserDeep", fn := fun _ => fun
  | [d1, d2] => { results := [.lit (.bool true)], args := [d1, d2] }
  | _ => none }
def parserDeepRow : OpenClaim := { program := "ytlhhhlimjajnlaa", sum := "fcc8257b921582cf3b4bee394871669bfe15f59fbc061fd07eff9b5003c992cb", func := "topiary/topiarylaw13.ParserDeep", spec := "parserDeep", inPlace := ["internal/bytealg.IndexByteString", "internal/bytealg.IndexString", "internal/abi.NoEscape"], unfollowed := true, recurses := true, named := ["internal/bytealg.MaxLen"], apart := false }
def ParserDeepSaid : Prop := parserDeepRow.holds Try.pinned (OpenSpec.ofChange parserDeepSpec)

/-- ITS FALSE NEIGHBOUR: 'it returns false'. Refute it at one input. -/
def parserDeepWrong : ChangeSpec := { name := "parserDeep", fn := fun _ => fun
  | [d1, d2] => { results := [.lit (.bool false)], args := [d1, d2] }
  | _ => none }
def ParserDeepWrongFalsely : Prop := parserDeepRow.holds Try.pinned (OpenSpec.ofChange parserDeepWrong)

/- THE SECOND FORM. 'bulk': how many values and letters a reading holds, each counted each time it is reached (what is shared counts as often as it is met; a slice's spare places count too). A statement '..UptoSaid' is the law's where the arguments, and the package variables that the reading takes, are together of bulk at most 1048576: NARROWER than '..Said'. Prove '..Said' where nothing that the law and all that it calls make is longer than what came in: it says more and counts as full. Else prove '..UptoSaid'. A law counts once. -/
mutual
def uptoBulk {H : Type} : DataW H → Nat
  | .lit (.string bytes) => bytes.length + 1
  | .lit _ => 1
  | .nil => 1
  | .ptr d => uptoBulk d + 1
  | .slice elems spare => uptoBulkAll elems + uptoBulkAll spare + 1
  | .agg parts => uptoBulkAll parts + 1
  | .iface _ d => uptoBulk d + 1
  | .map entries => uptoBulkEntries entries + 1
  | .held _ => 1
def uptoBulkAll {H : Type} : List (DataW H) → Nat
  | [] => 0
  | d :: r => uptoBulk d + uptoBulkAll r
def uptoBulkEntries {H : Type} : List (Lit × DataW H) → Nat
  | [] => 0
  | x :: r => uptoBulkEntry x + uptoBulkEntries r
def uptoBulkEntry {H : Type} : Lit × DataW H → Nat
  | (.string bytes, d) => bytes.length + uptoBulk d + 1
  | (_, d) => uptoBulk d + 1
 end
def uptoSmall : (H : Type) → List (DataW H) → Bool := fun _ ds => decide (uptoBulkAll ds ≤ 1048576)
def OpenSpec.upto (s : _root_.Go.ChangeSpec) : _root_.Go.OpenSpec := { _root_.Go.OpenSpec.ofChange s with cond := some uptoSmall }

/-- 'topiarylaw13.ParserStands', WHERE WHAT IT READS IS OF BULK AT MOST 1048576: true; the input reads as it did. -/
def parserStandsUptoRow : OpenClaim := { program := "ytlhhhlimjajnlaa", sum := "fcc8257b921582cf3b4bee394871669bfe15f59fbc061fd07eff9b5003c992cb", func := "topiary/topiarylaw13.ParserStands", spec := "parserStands", inPlace := ["internal/bytealg.IndexByteString", "internal/bytealg.IndexString", "internal/abi.NoEscape"], unfollowed := true, recurses := true, named := ["internal/bytealg.MaxLen"], apart := false, narrowed := true }
def ParserStandsUptoSaid : Prop := parserStandsUptoRow.holds Try.pinned (OpenSpec.upto parserStandsSpec)

/-- 'topiarylaw13.ParserPasses', WHERE WHAT IT READS IS OF BULK AT MOST 1048576: true; the input reads as it did. -/
def parserPassesUptoRow : OpenClaim := { program := "ytlhhhlimjajnlaa", sum := "fcc8257b921582cf3b4bee394871669bfe15f59fbc061fd07eff9b5003c992cb", func := "topiary/topiarylaw13.ParserPasses", spec := "parserPasses", inPlace := ["internal/bytealg.IndexByteString", "internal/bytealg.IndexString", "internal/abi.NoEscape"], unfollowed := true, recurses := true, named := ["internal/bytealg.MaxLen"], apart := false, narrowed := true }
def ParserPassesUptoSaid : Prop := parserPassesUptoRow.holds Try.pinned (OpenSpec.upto parserPassesSpec)

/-- 'topiarylaw13.ParserNests', WHERE WHAT IT READS IS OF BULK AT MOST 1048576: true; the input reads as it did. -/
def parserNestsUptoRow : OpenClaim := { program := "ytlhhhlimjajnlaa", sum := "fcc8257b921582cf3b4bee394871669bfe15f59fbc061fd07eff9b5003c992cb", func := "topiary/topiarylaw13.ParserNests", spec := "parserNests", inPlace := ["internal/bytealg.IndexByteString", "internal/bytealg.IndexString", "internal/abi.NoEscape"], unfollowed := true, recurses := true, named := ["internal/bytealg.MaxLen"], apart := false, narrowed := true }
def ParserNestsUptoSaid : Prop := parserNestsUptoRow.holds Try.pinned (OpenSpec.upto parserNestsSpec)

/-- 'topiarylaw13.ParserDeep', WHERE WHAT IT READS IS OF BULK AT MOST 1048576: true; the input reads as it did. -/
def parserDeepUptoRow : OpenClaim := { program := "ytlhhhlimjajnlaa", sum := "fcc8257b921582cf3b4bee394871669bfe15f59fbc061fd07eff9b5003c992cb", func := "topiary/topiarylaw13.ParserDeep", spec := "parserDeep", inPlace := ["internal/bytealg.IndexByteString", "internal/bytealg.IndexString", "internal/abi.NoEscape"], unfollowed := true, recurses := true, named := ["internal/bytealg.MaxLen"], apart := false, narrowed := true }
def ParserDeepUptoSaid : Prop := parserDeepUptoRow.holds Try.pinned (OpenSpec.upto parserDeepSpec)

end Rows
end Go.Proofs.Ytlhhhlimjajnlaa
