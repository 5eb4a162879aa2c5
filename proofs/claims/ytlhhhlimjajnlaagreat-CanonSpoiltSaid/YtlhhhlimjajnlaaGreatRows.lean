/-
  No cell of these rows narrows 'for every input' (looked for: loops, veiled, ifaces, maps, wideKeys, modest, calm, conditions, laid).
  DERIVED. THE GIVEN ROWS OF THIS SEAT. 7 by the template 'for every input the law returns true; each argument reads behind the call as it read before'; 0 by the template 'total and deterministic' (their statements: YtlhhhlimjajnlaaGreatTotals.lean).
  GIVEN WITH THE SEED: the statements are not yours to turn. If you find one false, say at which input.
  Laid BY PROGRAM, IN A SANDBOX (cutbox-rows.mjs): the forced cells as the released guide's own fill.sh prints them over the translation ae520b5be7f4fed6… (all of the seat's roots in one cut). By AI agents, Wed Nov 11 2026. No macro, syntax, notation, axiom, sorry.
-/
import Derived.Test.YtlhhhlimjajnlaaGreatChecked
import GoSem.Claim
import GoSem.ClaimJoined
import GoSem.ClaimMapViews
import Derived.JoinedTies
import Derived.KernelRfl
namespace Go.Proofs.YtlhhhlimjajnlaaGreat
/- THE CELL 'sum', in the pinned program and in every row, IS THE sha256 OF THE DUMP (.gsa) THAT YtlhhhlimjajnlaaGreatProg.lean LOADS. Nothing in Lean hashes anything: it is a label: what it is worth is what the hold of that sum in a sandbox is worth. -/
noncomputable def Tryz.pinned : Pinned := { name := "ytlhhhlimjajnlaagreat", sum := "ae520b5be7f4fed6f4923cb3bab1ef49386daf28cb0245af78fc5f1bf9f7b74c", checked := Tryz.checked }
namespace Rows
def none {H : Type} : Left H := { results := [], args := [] }

/-- 'topiarylaw13.ParserTrees': WHATEVER THE INPUT: true; the input reads as it did. -/
def parserTreesSpec : ChangeSpec := { name := "parserTrees", fn := fun _ => fun
  | [d] => { results := [.lit (.bool true)], args := [d] }
  | _ => none }
def parserTreesRow : OpenClaim := { program := "ytlhhhlimjajnlaagreat", sum := "ae520b5be7f4fed6f4923cb3bab1ef49386daf28cb0245af78fc5f1bf9f7b74c", func := "topiary/topiarylaw13.ParserTrees", spec := "parserTrees", inPlace := ["internal/bytealg.IndexByteString", "internal/bytealg.IndexString", "internal/abi.NoEscape"], unfollowed := true, recurses := true, named := ["internal/bytealg.MaxLen"], apart := false }
def ParserTreesSaid : Prop := parserTreesRow.holds Tryz.pinned (OpenSpec.ofChange parserTreesSpec)

/-- ITS FALSE NEIGHBOUR: 'it returns false'. Refute it at one input. -/
def parserTreesWrong : ChangeSpec := { name := "parserTrees", fn := fun _ => fun
  | [d] => { results := [.lit (.bool false)], args := [d] }
  | _ => none }
def ParserTreesWrongFalsely : Prop := parserTreesRow.holds Tryz.pinned (OpenSpec.ofChange parserTreesWrong)

/-- 'topiarylaw14.CanonTrees': WHATEVER THE INPUT: true; the input reads as it did. -/
def canonTreesSpec : ChangeSpec := { name := "canonTrees", fn := fun _ => fun
  | [d] => { results := [.lit (.bool true)], args := [d] }
  | _ => none }
def canonTreesRow : OpenClaim := { program := "ytlhhhlimjajnlaagreat", sum := "ae520b5be7f4fed6f4923cb3bab1ef49386daf28cb0245af78fc5f1bf9f7b74c", func := "topiary/topiarylaw14.CanonTrees", spec := "canonTrees", inPlace := ["internal/bytealg.IndexByteString", "internal/bytealg.IndexString", "internal/abi.NoEscape"], unfollowed := true, recurses := true, named := ["internal/bytealg.MaxLen"], apart := false }
def CanonTreesSaid : Prop := canonTreesRow.holds Tryz.pinned (OpenSpec.ofChange canonTreesSpec)

/-- ITS FALSE NEIGHBOUR: 'it returns false'. Refute it at one input. -/
def canonTreesWrong : ChangeSpec := { name := "canonTrees", fn := fun _ => fun
  | [d] => { results := [.lit (.bool false)], args := [d] }
  | _ => none }
def CanonTreesWrongFalsely : Prop := canonTreesRow.holds Tryz.pinned (OpenSpec.ofChange canonTreesWrong)

/-- 'topiarylaw14.CanonDocs': WHATEVER THE INPUT: true; the input reads as it did. -/
def canonDocsSpec : ChangeSpec := { name := "canonDocs", fn := fun _ => fun
  | [d] => { results := [.lit (.bool true)], args := [d] }
  | _ => none }
def canonDocsRow : OpenClaim := { program := "ytlhhhlimjajnlaagreat", sum := "ae520b5be7f4fed6f4923cb3bab1ef49386daf28cb0245af78fc5f1bf9f7b74c", func := "topiary/topiarylaw14.CanonDocs", spec := "canonDocs", inPlace := ["internal/bytealg.IndexByteString", "internal/bytealg.IndexString", "internal/abi.NoEscape"], unfollowed := true, recurses := true, named := ["internal/bytealg.MaxLen"], apart := false }
def CanonDocsSaid : Prop := canonDocsRow.holds Tryz.pinned (OpenSpec.ofChange canonDocsSpec)

/-- ITS FALSE NEIGHBOUR: 'it returns false'. Refute it at one input. -/
def canonDocsWrong : ChangeSpec := { name := "canonDocs", fn := fun _ => fun
  | [d] => { results := [.lit (.bool false)], args := [d] }
  | _ => none }
def CanonDocsWrongFalsely : Prop := canonDocsRow.holds Tryz.pinned (OpenSpec.ofChange canonDocsWrong)

/-- 'topiarylaw14.CanonParsed': WHATEVER THE INPUT: true; the input reads as it did. -/
def canonParsedSpec : ChangeSpec := { name := "canonParsed", fn := fun _ => fun
  | [d] => { results := [.lit (.bool true)], args := [d] }
  | _ => none }
def canonParsedRow : OpenClaim := { program := "ytlhhhlimjajnlaagreat", sum := "ae520b5be7f4fed6f4923cb3bab1ef49386daf28cb0245af78fc5f1bf9f7b74c", func := "topiary/topiarylaw14.CanonParsed", spec := "canonParsed", inPlace := ["internal/bytealg.IndexByteString", "internal/bytealg.IndexString", "internal/abi.NoEscape"], unfollowed := true, recurses := true, named := ["internal/bytealg.MaxLen"], apart := false }
def CanonParsedSaid : Prop := canonParsedRow.holds Tryz.pinned (OpenSpec.ofChange canonParsedSpec)

/-- ITS FALSE NEIGHBOUR: 'it returns false'. Refute it at one input. -/
def canonParsedWrong : ChangeSpec := { name := "canonParsed", fn := fun _ => fun
  | [d] => { results := [.lit (.bool false)], args := [d] }
  | _ => none }
def CanonParsedWrongFalsely : Prop := canonParsedRow.holds Tryz.pinned (OpenSpec.ofChange canonParsedWrong)

/-- 'topiarylaw14.CanonSpoilt': WHATEVER THE INPUT: true; the input reads as it did. -/
def canonSpoiltSpec : ChangeSpec := { name := "canonSpoilt", fn := fun _ => fun
  | [d1, d2] => { results := [.lit (.bool true)], args := [d1, d2] }
  | _ => none }
def canonSpoiltRow : OpenClaim := { program := "ytlhhhlimjajnlaagreat", sum := "ae520b5be7f4fed6f4923cb3bab1ef49386daf28cb0245af78fc5f1bf9f7b74c", func := "topiary/topiarylaw14.CanonSpoilt", spec := "canonSpoilt", inPlace := ["internal/bytealg.IndexByteString", "internal/bytealg.IndexString", "internal/abi.NoEscape"], unfollowed := true, recurses := true, named := ["internal/bytealg.MaxLen"], apart := false }
def CanonSpoiltSaid : Prop := canonSpoiltRow.holds Tryz.pinned (OpenSpec.ofChange canonSpoiltSpec)

/-- ITS FALSE NEIGHBOUR: 'it returns false'. Refute it at one input. -/
def canonSpoiltWrong : ChangeSpec := { name := "canonSpoilt", fn := fun _ => fun
  | [d1, d2] => { results := [.lit (.bool false)], args := [d1, d2] }
  | _ => none }
def CanonSpoiltWrongFalsely : Prop := canonSpoiltRow.holds Tryz.pinned (OpenSpec.ofChange canonSpoiltWrong)

/-- 'topiarylaw14.CanonBack': WHATEVER THE INPUT: true; the input reads as it did. -/
def canonBackSpec : ChangeSpec := { name := "canonBack", fn := fun _ => fun
  | [d] => { results := [.lit (.bool true)], args := [d] }
  | _ => none }
def canonBackRow : OpenClaim := { program := "ytlhhhlimjajnlaagreat", sum := "ae520b5be7f4fed6f4923cb3bab1ef49386daf28cb0245af78fc5f1bf9f7b74c", func := "topiary/topiarylaw14.CanonBack", spec := "canonBack", inPlace := ["internal/bytealg.IndexByteString", "internal/bytealg.IndexString", "internal/abi.NoEscape"], unfollowed := true, recurses := true, named := ["internal/bytealg.MaxLen"], apart := false }
def CanonBackSaid : Prop := canonBackRow.holds Tryz.pinned (OpenSpec.ofChange canonBackSpec)

/-- ITS FALSE NEIGHBOUR: 'it returns false'. Refute it at one input. -/
def canonBackWrong : ChangeSpec := { name := "canonBack", fn := fun _ => fun
  | [d] => { results := [.lit (.bool false)], args := [d] }
  | _ => none }
def CanonBackWrongFalsely : Prop := canonBackRow.holds Tryz.pinned (OpenSpec.ofChange canonBackWrong)

/-- 'topiarylaw14.CanonSame': WHATEVER THE INPUT: true; the input reads as it did. -/
def canonSameSpec : ChangeSpec := { name := "canonSame", fn := fun _ => fun
  | [d1, d2] => { results := [.lit (.bool true)], args := [d1, d2] }
  | _ => none }
def canonSameRow : OpenClaim := { program := "ytlhhhlimjajnlaagreat", sum := "ae520b5be7f4fed6f4923cb3bab1ef49386daf28cb0245af78fc5f1bf9f7b74c", func := "topiary/topiarylaw14.CanonSame", spec := "canonSame", inPlace := ["internal/bytealg.IndexByteString", "internal/bytealg.IndexString", "internal/abi.NoEscape"], unfollowed := true, recurses := true, named := ["internal/bytealg.MaxLen"], apart := false }
def CanonSameSaid : Prop := canonSameRow.holds Tryz.pinned (OpenSpec.ofChange canonSameSpec)

/-- ITS FALSE NEIGHBOUR: 'it returns false'. Refute it at one input. -/
def canonSameWrong : ChangeSpec := { name := "canonSame", fn := fun _ => fun
  | [d1, d2] => { results := [.lit (.bool false)], args := [d1, d2] }
  | _ => none }
def CanonSameWrongFalsely : Prop := canonSameRow.holds Tryz.pinned (OpenSpec.ofChange canonSameWrong)

/- THE SECOND FORM. 'bulk': how many values and letters a reading holds, each counted each time it is reached (what is shared counts as often as it is met; a slice's spare places count too). A statement '..UptoSaid' is the law's where the arguments, and the package variables that the reading takes, are together of bulk at most 1048576: NARROWER than '..Said'. Prove '..Said' where nothing that the law and all that it calls make is longer than what came in: it says more and counts as full. Else prove '..UptoSaid'. A law counts once. -/
mutual
def uptoBulk {H : Type} : DataW H → Nat
  | .lit (.string bytes) => bytes.length + 1
  | .lit _ => 1
  | .nil => 1
  | .ptr d => uptoBulk d + 1
  | .slice elems spare => uptoBulkAll elems + uptoBulkAll spare + 1
  | .agg parts => uptoBulkAll parts + 1
  | .iface _ d => uptoBulk d + 1
  | .map entries => uptoBulkEntries entries + 1
  | .held _ => 1
def uptoBulkAll {H : Type} : List (DataW H) → Nat
  | [] => 0
  | d :: r => uptoBulk d + uptoBulkAll r
def uptoBulkEntries {H : Type} : List (Lit × DataW H) → Nat
  | [] => 0
  | x :: r => uptoBulkEntry x + uptoBulkEntries r
def uptoBulkEntry {H : Type} : Lit × DataW H → Nat
  | (.string bytes, d) => bytes.length + uptoBulk d + 1
  | (_, d) => uptoBulk d + 1
 end
def uptoSmall : (H : Type) → List (DataW H) → Bool := fun _ ds => decide (uptoBulkAll ds ≤ 1048576)
def OpenSpec.upto (s : _root_.Go.ChangeSpec) : _root_.Go.OpenSpec := { _root_.Go.OpenSpec.ofChange s with cond := some uptoSmall }

/-- 'topiarylaw13.ParserTrees', WHERE WHAT IT READS IS OF BULK AT MOST 1048576: true; the input reads as it did. -/
def parserTreesUptoRow : OpenClaim := { program := "ytlhhhlimjajnlaagreat", sum := "ae520b5be7f4fed6f4923cb3bab1ef49386daf28cb0245af78fc5f1bf9f7b74c", func := "topiary/topiarylaw13.ParserTrees", spec := "parserTrees", inPlace := ["internal/bytealg.IndexByteString", "internal/bytealg.IndexString", "internal/abi.NoEscape"], unfollowed := true, recurses := true, named := ["internal/bytealg.MaxLen"], apart := false, narrowed := true }
def ParserTreesUptoSaid : Prop := parserTreesUptoRow.holds Tryz.pinned (OpenSpec.upto parserTreesSpec)

/-- 'topiarylaw14.CanonTrees', WHERE WHAT IT READS IS OF BULK AT MOST 1048576: true; the input reads as it did. -/
def canonTreesUptoRow : OpenClaim := { program := "ytlhhhlimjajnlaagreat", sum := "ae520b5be7f4fed6f4923cb3bab1ef49386daf28cb0245af78fc5f1bf9f7b74c", func := "topiary/topiarylaw14.CanonTrees", spec := "canonTrees", inPlace := ["internal/bytealg.IndexByteString", "internal/bytealg.IndexString", "internal/abi.NoEscape"], unfollowed := true, recurses := true, named := ["internal/bytealg.MaxLen"], apart := false, narrowed := true }
def CanonTreesUptoSaid : Prop := canonTreesUptoRow.holds Tryz.pinned (OpenSpec.upto canonTreesSpec)

/-- 'topiarylaw14.CanonDocs', WHERE WHAT IT READS IS OF BULK AT MOST 1048576: true; the input reads as it did. -/
def canonDocsUptoRow : OpenClaim := { program := "ytlhhhlimjajnlaagreat", sum := "ae520b5be7f4fed6f4923cb3bab1ef49386daf28cb0245af78fc5f1bf9f7b74c", func := "topiary/topiarylaw14.CanonDocs", spec := "canonDocs", inPlace := ["internal/bytealg.IndexByteString", "internal/bytealg.IndexString", "internal/abi.NoEscape"], unfollowed := true, recurses := true, named := ["internal/bytealg.MaxLen"], apart := false, narrowed := true }
def CanonDocsUptoSaid : Prop := canonDocsUptoRow.holds Tryz.pinned (OpenSpec.upto canonDocsSpec)

/-- 'topiarylaw14.CanonParsed', WHERE WHAT IT READS IS OF BULK AT MOST 1048576: true; the input reads as it did. -/
def canonParsedUptoRow : OpenClaim := { program := "ytlhhhlimjajnlaagreat", sum := "ae520b5be7f4fed6f4923cb3bab1ef49386daf28cb0245af78fc5f1bf9f7b74c", func := "topiary/topiarylaw14.CanonParsed", spec := "canonParsed", inPlace := ["internal/bytealg.IndexByteString", "internal/bytealg.IndexString", "internal/abi.NoEscape"], unfollowed := true, recurses := true, named := ["internal/bytealg.MaxLen"], apart := false, narrowed := true }
def CanonParsedUptoSaid : Prop := canonParsedUptoRow.holds Tryz.pinned (OpenSpec.upto canonParsedSpec)

/-- 'topiarylaw14.CanonSpoilt', WHERE WHAT IT READS IS OF BULK AT MOST 1048576: true; the input reads as it did. -/
def canonSpoiltUptoRow : OpenClaim := { program := "ytlhhhlimjajnlaagreat", sum := "ae520b5be7f4fed6f4923cb3bab1ef49386daf28cb0245af78fc5f1bf9f7b74c", func := "topiary/topiarylaw14.CanonSpoilt", spec := "canonSpoilt", inPlace := ["internal/bytealg.IndexByteString", "internal/bytealg.IndexString", "internal/abi.NoEscape"], unfollowed := true, recurses := true, named := ["internal/bytealg.MaxLen"], apart := false, narrowed := true }
def CanonSpoiltUptoSaid : Prop := canonSpoiltUptoRow.holds Tryz.pinned (OpenSpec.upto canonSpoiltSpec)

/-- 'topiarylaw14.CanonBack', WHERE WHAT IT READS IS OF BULK AT MOST 1048576: true; the input reads as it did. -/
def canonBackUptoRow : OpenClaim := { program := "ytlhhhlimjajnlaagreat", sum := "ae520b5be7f4fed6f4923cb3bab1ef49386daf28cb0245af78fc5f1bf9f7b74c", func := "topiary/topiarylaw14.CanonBack", spec := "canonBack", inPlace := ["internal/bytealg.IndexByteString", "internal/bytealg.IndexString", "internal/abi.NoEscape"], unfollowed := true, recurses := true, named := ["internal/bytealg.MaxLen"], apart := false, narrowed := true }
def CanonBackUptoSaid : Prop := canonBackUptoRow.holds Tryz.pinned (OpenSpec.upto canonBackSpec)

/-- 'topiarylaw14.CanonSame', WHERE WHAT IT READS IS OF BULK AT MOST 1048576: true; the input reads as it did. -/
def canonSameUptoRow : OpenClaim := { program := "ytlhhhlimjajnlaagreat", sum := "ae520b5be7f4fed6f4923cb3bab1ef49386daf28cb0245af78fc5f1bf9f7b74c", func := "topiary/topiarylaw14.CanonSame", spec := "canonSame", inPlace := ["internal/bytealg.IndexByteString", "internal/bytealg.IndexString", "internal/abi.NoEscape"], unfollowed := true, recurses := true, named := ["internal/bytealg.MaxLen"], apart := false, narrowed := true }
def CanonSameUptoSaid : Prop := canonSameUptoRow.holds Tryz.pinned (OpenSpec.upto canonSameSpec)

end Rows
end Go.Proofs.YtlhhhlimjajnlaaGreat
