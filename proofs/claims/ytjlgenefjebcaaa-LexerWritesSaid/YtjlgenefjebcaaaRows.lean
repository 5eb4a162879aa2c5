/-
  No cell of these rows narrows 'for every input' (looked for: loops, veiled, ifaces, maps, wideKeys, modest, calm, conditions, laid).
  DERIVED. THE GIVEN ROWS OF THIS SEAT. 3 by the template 'for every input the law returns true; each argument reads behind the call as it read before'; 0 by the template 'total and deterministic' (their statements: YtjlgenefjebcaaaTotals.lean).
  GIVEN WITH THE SEED: the statements are not yours to turn. If you find one false, say at which input.
  Laid BY PROGRAM, IN A SANDBOX (cutbox-rows.mjs): the forced cells as the released guide's own fill.sh prints them over the translation 2671f7e5fc91cf0c… (all of the seat's roots in one cut). By AI agents, Wed Nov 11 2026. No macro, syntax, notation, axiom, sorry.
-/
import Derived.Test.YtjlgenefjebcaaaChecked
import GoSem.Claim
import GoSem.ClaimJoined
import GoSem.ClaimMapViews
import Derived.JoinedTies
import Derived.KernelRfl
namespace Go.Proofs.Ytjlgenefjebcaaa
/- THE CELL 'sum', in the pinned program and in every row, IS THE sha256 OF THE DUMP (.gsa) THAT YtjlgenefjebcaaaProg.lean LOADS. Nothing in Lean hashes anything: it is a label: what it is worth is what the hold of that sum in a sandbox is worth. -/
noncomputable def Try.pinned : Pinned := { name := "ytjlgenefjebcaaa", sum := "2671f7e5fc91cf0c30c486b06a23499b78d091be223281effa7e6b3d2f93a50e", checked := Try.checked }
namespace Rows
def none {H : Type} : Left H := { results := [], args := [] }

/-- 'topiarylaw11.CharsEntities': WHATEVER THE INPUT: true; the input reads as it did. -/
def charsEntitiesSpec : ChangeSpec := { name := "charsEntities", fn := fun _ => fun
  | [d1, d2] => { results := [.lit (.bool true)], args := [d1, d2] }
  | _ => none }
def charsEntitiesRow : OpenClaim := { program := "ytjlgenefjebcaaa", sum := "2671f7e5fc91cf0c30c486b06a23499b78d091be223281effa7e6b3d2f93a50e", func := "topiary/topiarylaw11.CharsEntities", spec := "charsEntities", inPlace := ["internal/bytealg.IndexByteString", "internal/bytealg.IndexString", "internal/abi.NoEscape"], named := ["internal/bytealg.MaxLen"], apart := false }
def CharsEntitiesSaid : Prop := charsEntitiesRow.holds Try.pinned (OpenSpec.ofChange charsEntitiesSpec)

/-- ITS FALSE NEIGHBOUR: 'it returns false'. Refute it at one input. -/
def charsEntitiesWrong : ChangeSpec := { name := "charsEntities", fn := fun _ => fun
  | [d1, d2] => { results := [.lit (.bool false)], args := [d1, d2] }
  | _ => none }
def CharsEntitiesWrongFalsely : Prop := charsEntitiesRow.holds Try.pinned (OpenSpec.ofChange charsEntitiesWrong)

/-- 'topiarylaw11.CharsNames': WHATEVER THE INPUT: true; the input reads as it did. -/
def charsNamesSpec : ChangeSpec := { name := "charsNames", fn := fun _ => fun
  | [d1, d2, d3] => { results := [.lit (.bool true)], args := [d1, d2, d3] }
  | _ => none }
def charsNamesRow : OpenClaim := { program := "ytjlgenefjebcaaa", sum := "2671f7e5fc91cf0c30c486b06a23499b78d091be223281effa7e6b3d2f93a50e", func := "topiary/topiarylaw11.CharsNames", spec := "charsNames", inPlace := ["internal/bytealg.IndexByteString", "internal/bytealg.IndexString", "internal/abi.NoEscape"], unfollowed := true, recurses := true, named := ["internal/bytealg.MaxLen"], apart := false }
def CharsNamesSaid : Prop := charsNamesRow.holds Try.pinned (OpenSpec.ofChange charsNamesSpec)

/-- ITS FALSE NEIGHBOUR: 'it returns false'. Refute it at one input. -/
def charsNamesWrong : ChangeSpec := { name := "charsNames", fn := fun _ => fun
  | [d1, d2, d3] => { results := [.lit (.bool false)], args := [d1, d2, d3] }
  | _ => none }
def CharsNamesWrongFalsely : Prop := charsNamesRow.holds Try.pinned (OpenSpec.ofChange charsNamesWrong)

/-- 'topiarylaw12.LexerWrites': WHATEVER THE INPUT: true; the input reads as it did. -/
def lexerWritesSpec : ChangeSpec := { name := "lexerWrites", fn := fun _ => fun
  | [d1, d2, d3] => { results := [.lit (.bool true)], args := [d1, d2, d3] }
  | _ => none }
def lexerWritesRow : OpenClaim := { program := "ytjlgenefjebcaaa", sum := "2671f7e5fc91cf0c30c486b06a23499b78d091be223281effa7e6b3d2f93a50e", func := "topiary/topiarylaw12.LexerWrites", spec := "lexerWrites", inPlace := ["internal/bytealg.IndexByteString", "internal/bytealg.IndexString", "internal/abi.NoEscape"], unfollowed := true, recurses := true, named := ["internal/bytealg.MaxLen"], apart := false }
def LexerWritesSaid : Prop := lexerWritesRow.holds Try.pinned (OpenSpec.ofChange lexerWritesSpec)

/-- ITS FALSE NEIGHBOUR: 'it returns false'. Refute it at one input. -/
def lexerWritesWrong : ChangeSpec := { name := "lexerWrites", fn := fun _ => fun
  | [d1, d2, d3] => { results := [.lit (.bool false)], args := [d1, d2, d3] }
  | _ => none }
def LexerWritesWrongFalsely : Prop := lexerWritesRow.holds Try.pinned (OpenSpec.ofChange lexerWritesWrong)

/- THE SECOND FORM. 'bulk': how many values and letters a reading holds, each counted each time it is reached (what is shared counts as often as it is met; a slice's spare places count too). A statement '..UptoSaid' is the law's where the arguments, and the package variables that the reading takes, are together of bulk at most 1048576: NARROWER than '..Said'. Prove '..Said' where nothing that the law and all that it calls make is longer than what came in: it says more and counts as full. Else prove '..UptoSaid'. A law counts once. -/
mutual
def uptoBulk {H : Type} : DataW H → Nat
  | .lit (.string bytes) => bytes.length + 1
  | .lit _ => 1
  | .nil => 1
  | .ptr d => uptoBulk d + 1
  | .slice elems spare => uptoBulkAll elems + uptoBulkAll spare + 1
  | .agg parts => uptoBulkAll parts + 1
  | .iface _ d => uptoBulk d + 1
  | .map entries => uptoBulkEntries entries + 1
  | .held _ => 1
def uptoBulkAll {H : Type} : List (DataW H) → Nat
  | [] => 0
  | d :: r => uptoBulk d + uptoBulkAll r
def uptoBulkEntries {H : Type} : List (Lit × DataW H) → Nat
  | [] => 0
  | x :: r => uptoBulkEntry x + uptoBulkEntries r
def uptoBulkEntry {H : Type} : Lit × DataW H → Nat
  | (.string bytes, d) => bytes.length + uptoBulk d + 1
  | (_, d) => uptoBulk d + 1
 end
def uptoSmall : (H : Type) → List (DataW H) → Bool := fun _ ds => decide (uptoBulkAll ds ≤ 1048576)
def OpenSpec.upto (s : _root_.Go.ChangeSpec) : _root_.Go.OpenSpec := { _root_.Go.OpenSpec.ofChange s with cond := some uptoSmall }

/-- 'topiarylaw11.CharsEntities', WHERE WHAT IT READS IS OF BULK AT MOST 1048576: true; the input reads as it did. -/
def charsEntitiesUptoRow : OpenClaim := { program := "ytjlgenefjebcaaa", sum := "2671f7e5fc91cf0c30c486b06a23499b78d091be223281effa7e6b3d2f93a50e", func := "topiary/topiarylaw11.CharsEntities", spec := "charsEntities", inPlace := ["internal/bytealg.IndexByteString", "internal/bytealg.IndexString", "internal/abi.NoEscape"], named := ["internal/bytealg.MaxLen"], apart := false, narrowed := true }
def CharsEntitiesUptoSaid : Prop := charsEntitiesUptoRow.holds Try.pinned (OpenSpec.upto charsEntitiesSpec)

/-- 'topiarylaw11.CharsNames', WHERE WHAT IT READS IS OF BULK AT MOST 1048576: true; the input reads as it did. -/
def charsNamesUptoRow : OpenClaim := { program := "ytjlgenefjebcaaa", sum := "2671f7e5fc91cf0c30c486b06a23499b78d091be223281effa7e6b3d2f93a50e", func := "topiary/topiarylaw11.CharsNames", spec := "charsNames", inPlace := ["internal/bytealg.IndexByteString", "internal/bytealg.IndexString", "internal/abi.NoEscape"], unfollowed := true, recurses := true, named := ["internal/bytealg.MaxLen"], apart := false, narrowed := true }
def CharsNamesUptoSaid : Prop := charsNamesUptoRow.holds Try.pinned (OpenSpec.upto charsNamesSpec)

/-- 'topiarylaw12.LexerWrites', WHERE WHAT IT READS IS OF BULK AT MOST 1048576: true; the input reads as it did. -/
def lexerWritesUptoRow : OpenClaim := { program := "ytjlgenefjebcaaa", sum := "2671f7e5fc91cf0c30c486b06a23499b78d091be223281effa7e6b3d2f93a50e", func := "topiary/topiarylaw12.LexerWrites", spec := "lexerWrites", inPlace := ["internal/bytealg.IndexByteString", "internal/bytealg.IndexString", "internal/abi.NoEscape"], unfollowed := true, recurses := true, named := ["internal/bytealg.MaxLen"], apart := false, narrowed := true }
def LexerWritesUptoSaid : Prop := lexerWritesUptoRow.holds Try.pinned (OpenSpec.upto lexerWritesSpec)

end Rows
end Go.Proofs.Ytjlgenefjebcaaa
