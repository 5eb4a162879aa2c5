/-
  No cell of these rows narrows 'for every input' (looked for: loops, veiled, ifaces, maps, wideKeys, modest, calm, conditions, laid).
  DERIVED. THE GIVEN ROWS OF THIS SEAT. 13 by the template 'for every input the law returns true; each argument reads behind the call as it read before'; 0 by the template 'total and deterministic' (their statements: YtekkaoenabjeiaaTotals.lean).
  GIVEN WITH THE SEED: the statements are not yours to turn. If you find one false, say at which input.
  Laid BY PROGRAM, IN A SANDBOX (cutbox-rows.mjs): the forced cells as the released guide's own fill.sh prints them over the translation 02a187e7d3f00060… (all of the seat's roots in one cut). By AI agents, Wed Nov 11 2026. No macro, syntax, notation, axiom, sorry.
-/
import Derived.Test.YtekkaoenabjeiaaChecked
import GoSem.Claim
import GoSem.ClaimJoined
import GoSem.ClaimMapViews
import Derived.JoinedTies
import Derived.KernelRfl
namespace Go.Proofs.Ytekkaoenabjeiaa
/- THE CELL 'sum', in the pinned program and in every row, IS THE sha256 OF THE DUMP (.gsa) THAT YtekkaoenabjeiaaProg.lean LOADS. Nothing in Lean hashes anything: it is a label: what it is worth is what the hold of that sum in a sandbox is worth. -/
noncomputable def Try.pinned : Pinned := { name := "ytekkaoenabjeiaa", sum := "02a187e7d3f000600a1be259df71f1a494d9e8364dc191a2facf30531102181a", checked := Try.checked }
namespace Rows
def none {H : Type} : Left H := { results := [], args := [] }

/-- 'topiarylaw11.CharsEntities': WHATEVER THE INPUT: true; the input reads as it did. -/
def charsEntitiesSpec : ChangeSpec := { name := "charsEntities", fn := fun _ => fun
  | [d1, d2] => { results := [.lit (.bool true)], args := [d1, d2] }
  | _ => none }
def charsEntitiesRow : OpenClaim := { program := "ytekkaoenabjeiaa", sum := "02a187e7d3f000600a1be259df71f1a494d9e8364dc191a2facf30531102181a", func := "topiary/topiarylaw11.CharsEntities", spec := "charsEntities", inPlace := ["internal/bytealg.IndexByteString", "internal/bytealg.IndexString", "internal/abi.NoEscape"], named := ["internal/bytealg.MaxLen"], apart := false }
def CharsEntitiesSaid : Prop := charsEntitiesRow.holds Try.pinned (OpenSpec.ofChange charsEntitiesSpec)

/-- ITS FALSE NEIGHBOUR: 'it returns false'. Refute it at one input. -/
def charsEntitiesWrong : ChangeSpec := { name := "charsEntities", fn := fun _ => fun
  | [d1, d2] => { results := [.lit (.bool false)], args := [d1, d2] }
  | _ => none }
def CharsEntitiesWrongFalsely : Prop := charsEntitiesRow.holds Try.pinned (OpenSpec.ofChange charsEntitiesWrong)

/-- 'topiarylaw11.CharsBack': WHATEVER THE INPUT: true; the input reads as it did. -/
def charsBackSpec : ChangeSpec := { name := "charsBack", fn := fun _ => fun
  | [d1, d2] => { results := [.lit (.bool true)], args := [d1, d2] }
  | _ => none }
def charsBackRow : OpenClaim := { program := "ytekkaoenabjeiaa", sum := "02a187e7d3f000600a1be259df71f1a494d9e8364dc191a2facf30531102181a", func := "topiary/topiarylaw11.CharsBack", spec := "charsBack", inPlace := ["internal/bytealg.IndexByteString", "internal/bytealg.IndexString", "internal/abi.NoEscape"], named := ["internal/bytealg.MaxLen"], apart := false }
def CharsBackSaid : Prop := charsBackRow.holds Try.pinned (OpenSpec.ofChange charsBackSpec)

/-- ITS FALSE NEIGHBOUR: 'it returns false'. Refute it at one input. -/
def charsBackWrong : ChangeSpec := { name := "charsBack", fn := fun _ => fun
  | [d1, d2] => { results := [.lit (.bool false)], args := [d1, d2] }
  | _ => none }
def CharsBackWrongFalsely : Prop := charsBackRow.holds Try.pinned (OpenSpec.ofChange charsBackWrong)

/-- 'topiarylaw11.CharsEscaped': WHATEVER THE INPUT: true; the input reads as it did. -/
def charsEscapedSpec : ChangeSpec := { name := "charsEscaped", fn := fun _ => fun
  | [d] => { results := [.lit (.bool true)], args := [d] }
  | _ => none }
def charsEscapedRow : OpenClaim := { program := "ytekkaoenabjeiaa", sum := "02a187e7d3f000600a1be259df71f1a494d9e8364dc191a2facf30531102181a", func := "topiary/topiarylaw11.CharsEscaped", spec := "charsEscaped", inPlace := ["internal/bytealg.IndexByteString", "internal/bytealg.IndexString", "internal/abi.NoEscape"], named := ["internal/bytealg.MaxLen"], apart := false }
def CharsEscapedSaid : Prop := charsEscapedRow.holds Try.pinned (OpenSpec.ofChange charsEscapedSpec)

/-- ITS FALSE NEIGHBOUR: 'it returns false'. Refute it at one input. -/
def charsEscapedWrong : ChangeSpec := { name := "charsEscaped", fn := fun _ => fun
  | [d] => { results := [.lit (.bool false)], args := [d] }
  | _ => none }
def CharsEscapedWrongFalsely : Prop := charsEscapedRow.holds Try.pinned (OpenSpec.ofChange charsEscapedWrong)

/-- 'topiarylaw11.CharsNumbers': WHATEVER THE INPUT: true; the input reads as it did. -/
def charsNumbersSpec : ChangeSpec := { name := "charsNumbers", fn := fun _ => fun
  | [d] => { results := [.lit (.bool true)], args := [d] }
  | _ => none }
def charsNumbersRow : OpenClaim := { program := "ytekkaoenabjeiaa", sum := "02a187e7d3f000600a1be259df71f1a494d9e8364dc191a2facf30531102181a", func := "topiary/topiarylaw11.CharsNumbers", spec := "charsNumbers", inPlace := ["internal/bytealg.IndexByteString", "internal/bytealg.IndexString", "internal/abi.NoEscape"], named := ["internal/bytealg.MaxLen"], apart := false }
def CharsNumbersSaid : Prop := charsNumbersRow.holds Try.pinned (OpenSpec.ofChange charsNumbersSpec)

/-- ITS FALSE NEIGHBOUR: 'it returns false'. Refute it at one input. -/
def charsNumbersWrong : ChangeSpec := { name := "charsNumbers", fn := fun _ => fun
  | [d] => { results := [.lit (.bool false)], args := [d] }
  | _ => none }
def CharsNumbersWrongFalsely : Prop := charsNumbersRow.holds Try.pinned (OpenSpec.ofChange charsNumbersWrong)

/-- 'topiarylaw11.CharsRead': WHATEVER THE INPUT: true; the input reads as it did. -/
def charsReadSpec : ChangeSpec := { name := "charsRead", fn := fun _ => fun
  | [d1, d2, d3] => { results := [.lit (.bool true)], args := [d1, d2, d3] }
  | _ => none }
def charsReadRow : OpenClaim := { program := "ytekkaoenabjeiaa", sum := "02a187e7d3f000600a1be259df71f1a494d9e8364dc191a2facf30531102181a", func := "topiary/topiarylaw11.CharsRead", spec := "charsRead", inPlace := ["internal/bytealg.IndexByteString", "internal/bytealg.IndexString", "internal/abi.NoEscape"], named := ["internal/bytealg.MaxLen"], apart := false }
def CharsReadSaid : Prop := charsReadRow.holds Try.pinned (OpenSpec.ofChange charsReadSpec)

/-- ITS FALSE NEIGHBOUR: 'it returns false'. Refute it at one input. -/
def charsReadWrong : ChangeSpec := { name := "charsRead", fn := fun _ => fun
  | [d1, d2, d3] => { results := [.lit (.bool false)], args := [d1, d2, d3] }
  | _ => none }
def CharsReadWrongFalsely : Prop := charsReadRow.holds Try.pinned (OpenSpec.ofChange charsReadWrong)

/-- 'topiarylaw11.CharsJoin': WHATEVER THE INPUT: true; the input reads as it did. -/
def charsJoinSpec : ChangeSpec := { name := "charsJoin", fn := fun _ => fun
  | [d1, d2] => { results := [.lit (.bool true)], args := [d1, d2] }
  | _ => none }
def charsJoinRow : OpenClaim := { program := "ytekkaoenabjeiaa", sum := "02a187e7d3f000600a1be259df71f1a494d9e8364dc191a2facf30531102181a", func := "topiary/topiarylaw11.CharsJoin", spec := "charsJoin", inPlace := ["internal/bytealg.IndexByteString", "internal/bytealg.IndexString", "internal/abi.NoEscape"], named := ["internal/bytealg.MaxLen"], apart := false }
def CharsJoinSaid : Prop := charsJoinRow.holds Try.pinned (OpenSpec.ofChange charsJoinSpec)

/-- ITS FALSE NEIGHBOUR: 'it returns false'. Refute it at one input. -/
def charsJoinWrong : ChangeSpec := { name := "charsJoin", fn := fun _ => fun
  | [d1, d2] => { results := [.lit (.bool false)], args := [d1, d2] }
  | _ => none }
def CharsJoinWrongFalsely : Prop := charsJoinRow.holds Try.pinned (OpenSpec.ofChange charsJoinWrong)

/-- 'topiarylaw11.CharsNames': WHATEVER THE INPUT: true; the input reads as it did. -/
def charsNamesSpec : ChangeSpec := { name := "charsNames", fn := fun _ => fun
  | [d1, d2, d3] => { results := [.lit (.bool true)], args := [d1, d2, d3] }
  | _ => none }
def charsNamesRow : OpenClaim := { program := "ytekkaoenabjeiaa", sum := "02a187e7d3f000600a1be259df71f1a494d9e8364dc191a2facf30531102181a", func := "topiary/topiarylaw11.CharsNames", spec := "charsNames", inPlace := ["internal/bytealg.IndexByteString", "internal/bytealg.IndexString", "internal/abi.NoEscape"], unfollowed := true, recurses := true, named := ["internal/bytealg.MaxLen"], apart := false }
def CharsNamesSaid : Prop := charsNamesRow.holds Try.pinned (OpenSpec.ofChange charsNamesSpec)

/-- ITS FALSE NEIGHBOUR: 'it returns false'. Refute it at one input. -/
def charsNamesWrong : ChangeSpec := { name := "charsNames", fn := fun _ => fun
  | [d1, d2, d3] => { results := [.lit (.bool false)], args := [d1, d2, d3] }
  | _ => none }
def CharsNamesWrongFalsely : Prop := charsNamesRow.holds Try.pinned (OpenSpec.ofChange charsNamesWrong)

/-- 'topiarylaw12.LexerPieces': WHATEVER THE INPUT: true; the input reads as it did. -/
def lexerPiecesSpec : ChangeSpec := { name := "lexerPieces", fn := fun _ => fun
  | [d] => { results := [.lit (.bool true)], args := [d] }
  | _ => none }
def lexerPiecesRow : OpenClaim := { program := "ytekkaoenabjeiaa", sum := "02a187e7d3f000600a1be259df71f1a494d9e8364dc191a2facf30531102181a", func := "topiary/topiarylaw12.LexerPieces", spec := "lexerPieces", inPlace := ["internal/bytealg.IndexByteString", "internal/bytealg.IndexString", "internal/abi.NoEscape"], unfollowed := true, recurses := true, named := ["internal/bytealg.MaxLen"], apart := false }
def LexerPiecesSaid : Prop := lexerPiecesRow.holds Try.pinned (OpenSpec.ofChange lexerPiecesSpec)

/-- ITS FALSE NEIGHBOUR: 'it returns false'. Refute it at one input. -/
def lexerPiecesWrong : ChangeSpec := { name := "lexerPieces", fn := fun _ => fun
  | [d] => { results := [.lit (.bool false)], args := [d] }
  | _ => none }
def LexerPiecesWrongFalsely : Prop := lexerPiecesRow.holds Try.pinned (OpenSpec.ofChange lexerPiecesWrong)

/-- 'topiarylaw12.LexerStands': WHATEVER THE INPUT: true; the input reads as it did. -/
def lexerStandsSpec : ChangeSpec := { name := "lexerStands", fn := fun _ => fun
  | [d] => { results := [.lit (.bool true)], args := [d] }
  | _ => none }
def lexerStandsRow : OpenClaim := { program := "ytekkaoenabjeiaa", sum := "02a187e7d3f000600a1be259df71f1a494d9e8364dc191a2facf30531102181a", func := "topiary/topiarylaw12.LexerStands", spec := "lexerStands", inPlace := ["internal/bytealg.IndexByteString", "internal/bytealg.IndexString", "internal/abi.NoEscape"], unfollowed := true, recurses := true, named := ["internal/bytealg.MaxLen"], apart := false }
def LexerStandsSaid : Prop := lexerStandsRow.holds Try.pinned (OpenSpec.ofChange lexerStandsSpec)

/-- ITS FALSE NEIGHBOUR: 'it returns false'. Refute it at one input. -/
def lexerStandsWrong : ChangeSpec := { name := "lexerStands", fn := fun _ => fun
  | [d] => { results := [.lit (.bool false)], args := [d] }
  | _ => none }
def LexerStandsWrongFalsely : Prop := lexerStandsRow.holds Try.pinned (OpenSpec.ofChange lexerStandsWrong)

/-- 'topiarylaw12.LexerJoins': WHATEVER THE INPUT: true; the input reads as it did. -/
def lexerJoinsSpec : ChangeSpec := { name := "lexerJoins", fn := fun _ => fun
  | [d1, d2] => { results := [.lit (.bool true)], args := [d1, d2] }
  | _ => none }
def lexerJoinsRow : OpenClaim := { program := "ytekkaoenabjeiaa", sum := "02a187e7d3f000600a1be259df71f1a494d9e8364dc191a2facf30531102181a", func := "topiary/topiarylaw12.LexerJoins", spec := "lexerJoins", inPlace := ["internal/bytealg.IndexByteString", "internal/bytealg.IndexString", "internal/abi.NoEscape"], unfollowed := true, recurses := true, named := ["internal/bytealg.MaxLen"], apart := false }
def LexerJoinsSaid : Prop := lexerJoinsRow.holds Try.pinned (OpenSpec.ofChange lexerJoinsSpec)

/-- ITS FALSE NEIGHBOUR: 'it returns false'. Refute it at one input. -/
def lexerJoinsWrong : ChangeSpec := { name := "lexerJoins", fn := fun _ => fun
  | [d1, d2] => { results := [.lit (.bool false)], args := [d1, d2] }
  | _ => none }
def LexerJoinsWrongFalsely : Prop := lexerJoinsRow.holds Try.pinned (OpenSpec.ofChange lexerJoinsWrong)

/-- 'topiarylaw12.LexerWrites': WHATEVER THE INPUT: true; the input reads as it did. -/
def lexerWritesSpec : ChangeSpec := { name := "lexerWrites", fn := fun _ => fun
  | [d1, d2, d3] => { results := [.lit (.bool true)], args := [d1, d2, d3] }
  | _ => none }
def lexerWritesRow : OpenClaim := { program := "ytekkaoenabjeiaa", sum := "02a187e7d3f000600a1be259df71f1a494d9e8364dc191a2facf30531102181a", func := "topiary/topiarylaw12.LexerWrites", spec := "lexerWrites", inPlace := ["internal/bytealg.IndexByteString", "internal/bytealg.IndexString", "internal/abi.NoEscape"], unfollowed := true, recurses := true, named := ["internal/bytealg.MaxLen"], apart := false }
def LexerWritesSaid : Prop := lexerWritesRow.holds Try.pinned (OpenSpec.ofChange lexerWritesSpec)

/-- ITS FALSE NEIGHBOUR: 'it returns false'. Refute it at one input. -/
def lexerWritesWrong : ChangeSpec := { name := "lexerWrites", fn := fun _ => fun
  | [d1, d2, d3] => { results := [.lit (.bool false)], args := [d1, d2, d3] }
  | _ => none }
def LexerWritesWrongFalsely : Prop := lexerWritesRow.holds Try.pinned (OpenSpec.ofChange lexerWritesWrong)

/-- 'topiarylaw12.LexerTexts': WHATEVER THE INPUT: true; the input reads as it did. -/
def lexerTextsSpec : ChangeSpec := { name := "lexerTexts", fn := fun _ => fun
  | [d] => { results := [.lit (.bool true)], args := [d] }
  | _ => none }
def lexerTextsRow : OpenClaim := { program := "ytekkaoenabjeiaa", sum := "02a187e7d3f000600a1be259df71f1a494d9e8364dc191a2facf30531102181a", func := "topiary/topiarylaw12.LexerTexts", spec := "lexerTexts", inPlace := ["internal/bytealg.IndexByteString", "internal/bytealg.IndexString", "internal/abi.NoEscape"], unfollowed := true, recurses := true, named := ["internal/bytealg.MaxLen"], apart := false }
def LexerTextsSaid : Prop := lexerTextsRow.holds Try.pinned (OpenSpec.ofChange lexerTextsSpec)

/-- ITS FALSE NEIGHBOUR: 'it returns false'. Refute it at one input. -/
def lexerTextsWrong : ChangeSpec := { name := "lexerTexts", fn := fun _ => fun
  | [d] => { results := [.lit (.bool false)], args := [d] }
  | _ => none }
def LexerTextsWrongFalsely : Prop := lexerTextsRow.holds Try.pinned (OpenSpec.ofChange lexerTextsWrong)

/-- 'topiarylaw12.LexerLimit': WHATEVER THE INPUT: true; the input reads as it did. -/
def lexerLimitSpec : ChangeSpec := { name := "lexerLimit", fn := fun _ => fun
  | [d] => { results := [.lit (.bool true)], args := [d] }
  | _ => none }
def lexerLimitRow : OpenClaim := { program := "ytekkaoenabjeiaa", sum := "02a187e7d3f000600a1be259df71f1a494d9e8364dc191a2facf30531102181a", func := "topiary/topiarylaw12.LexerLimit", spec := "lexerLimit", inPlace := ["internal/bytealg.IndexByteString", "internal/bytealg.IndexString", "internal/abi.NoEscape"], unfollowed := true, recurses := true, named := ["internal/bytealg.MaxLen"], apart := false }
def LexerLimitSaid : Prop := lexerLimitRow.holds Try.pinned (OpenSpec.ofChange lexerLimitSpec)

/-- ITS FALSE NEIGHBOUR: 'it returns false'. Refute it at one input. -/
def lexerLimitWrong : ChangeSpec := { name := "lexerLimit", fn := fun _ => fun
  | [d] => { results := [.lit (.bool false)], args := [d] }
  | _ => none }
def LexerLimitWrongFalsely : Prop := lexerLimitRow.holds Try.pinned (OpenSpec.ofChange lexerLimitWrong)

/- THE SECOND FORM. 'bulk': how many values and letters a reading holds, each counted each time it is reached (what is shared counts as often as it is met; a slice's spare places count too). A statement '..UptoSaid' is the law's where the arguments, and the package variables that the reading takes, are together of bulk at most 1048576: NARROWER than '..Said'. Prove '..Said' where nothing that the law and all that it calls make is longer than what came in: it says more and counts as full. Else prove '..UptoSaid'. A law counts once. -/
mutual
def uptoBulk {H : Type} : DataW H → Nat
  | .lit (.string bytes) => bytes.length + 1
  | .lit _ => 1
  | .nil => 1
  | .ptr d => uptoBulk d + 1
  | .slice elems spare => uptoBulkAll elems + uptoBulkAll spare + 1
  | .agg parts => uptoBulkAll parts + 1
  | .iface _ d => uptoBulk d + 1
  | .map entries => uptoBulkEntries entries + 1
  | .held _ => 1
def uptoBulkAll {H : Type} : List (DataW H) → Nat
  | [] => 0
  | d :: r => uptoBulk d + uptoBulkAll r
def uptoBulkEntries {H : Type} : List (Lit × DataW H) → Nat
  | [] => 0
  | x :: r => uptoBulkEntry x + uptoBulkEntries r
def uptoBulkEntry {H : Type} : Lit × DataW H → Nat
  | (.string bytes, d) => bytes.length + uptoBulk d + 1
  | (_, d) => uptoBulk d + 1
 end
def uptoSmall : (H : Type) → List (DataW H) → Bool := fun _ ds => decide (uptoBulkAll ds ≤ 1048576)
def OpenSpec.upto (s : _root_.Go.ChangeSpec) : _root_.Go.OpenSpec := { _root_.Go.OpenSpec.ofChange s with cond := some uptoSmall }

/-- 'topiarylaw11.CharsEntities', WHERE WHAT IT READS IS OF BULK AT MOST 1048576: true; the input reads as it did. -/
def charsEntitiesUptoRow : OpenClaim := { program := "ytekkaoenabjeiaa", sum := "02a187e7d3f000600a1be259df71f1a494d9e8364dc191a2facf30531102181a", func := "topiary/topiarylaw11.CharsEntities", spec := "charsEntities", inPlace := ["internal/bytealg.IndexByteString", "internal/bytealg.IndexString", "internal/abi.NoEscape"], named := ["internal/bytealg.MaxLen"], apart := false, narrowed := true }
def CharsEntitiesUptoSaid : Prop := charsEntitiesUptoRow.holds Try.pinned (OpenSpec.upto charsEntitiesSpec)

/-- 'topiarylaw11.CharsBack', WHERE WHAT IT READS IS OF BULK AT MOST 1048576: true; the input reads as it did. -/
def charsBackUptoRow : OpenClaim := { program := "ytekkaoenabjeiaa", sum := "02a187e7d3f000600a1be259df71f1a494d9e8364dc191a2facf30531102181a", func := "topiary/topiarylaw11.CharsBack", spec := "charsBack", inPlace := ["internal/bytealg.IndexByteString", "internal/bytealg.IndexString", "internal/abi.NoEscape"], named := ["internal/bytealg.MaxLen"], apart := false, narrowed := true }
def CharsBackUptoSaid : Prop := charsBackUptoRow.holds Try.pinned (OpenSpec.upto charsBackSpec)

/-- 'topiarylaw11.CharsEscaped', WHERE WHAT IT READS IS OF BULK AT MOST 1048576: true; the input reads as it did. -/
def charsEscapedUptoRow : OpenClaim := { program := "ytekkaoenabjeiaa", sum := "02a187e7d3f000600a1be259df71f1a494d9e8364dc191a2facf30531102181a", func := "topiary/topiarylaw11.CharsEscaped", spec := "charsEscaped", inPlace := ["internal/bytealg.IndexByteString", "internal/bytealg.IndexString", "internal/abi.NoEscape"], named := ["internal/bytealg.MaxLen"], apart := false, narrowed := true }
def CharsEscapedUptoSaid : Prop := charsEscapedUptoRow.holds Try.pinned (OpenSpec.upto charsEscapedSpec)

/-- 'topiarylaw11.CharsNumbers', WHERE WHAT IT READS IS OF BULK AT MOST 1048576: true; the input reads as it did. -/
def charsNumbersUptoRow : OpenClaim := { program := "ytekkaoenabjeiaa", sum := "02a187e7d3f000600a1be259df71f1a494d9e8364dc191a2facf30531102181a", func := "topiary/topiarylaw11.CharsNumbers", spec := "charsNumbers", inPlace := ["internal/bytealg.IndexByteString", "internal/bytealg.IndexString", "internal/abi.NoEscape"], named := ["internal/bytealg.MaxLen"], apart := false, narrowed := true }
def CharsNumbersUptoSaid : Prop := charsNumbersUptoRow.holds Try.pinned (OpenSpec.upto charsNumbersSpec)

/-- 'topiarylaw11.CharsRead', WHERE WHAT IT READS IS OF BULK AT MOST 1048576: true; the input reads as it did. -/
def charsReadUptoRow : OpenClaim := { program := "ytekkaoenabjeiaa", sum := "02a187e7d3f000600a1be259df71f1a494d9e8364dc191a2facf30531102181a", func := "topiary/topiarylaw11.CharsRead", spec := "charsRead", inPlace := ["internal/bytealg.IndexByteString", "internal/bytealg.IndexString", "internal/abi.NoEscape"], named := ["internal/bytealg.MaxLen"], apart := false, narrowed := true }
def CharsReadUptoSaid : Prop := charsReadUptoRow.holds Try.pinned (OpenSpec.upto charsReadSpec)

/-- 'topiarylaw11.CharsJoin', WHERE WHAT IT READS IS OF BULK AT MOST 1048576: true; the input reads as it did. -/
def charsJoinUptoRow : OpenClaim := { program := "ytekkaoenabjeiaa", sum := "02a187e7d3f000600a1be259df71f1a494d9e8364dc191a2facf30531102181a", func := "topiary/topiarylaw11.CharsJoin", spec := "charsJoin", inPlace := ["internal/bytealg.IndexByteString", "internal/bytealg.IndexString", "internal/abi.NoEscape"], named := ["internal/bytealg.MaxLen"], apart := false, narrowed := true }
def CharsJoinUptoSaid : Prop := charsJoinUptoRow.holds Try.pinned (OpenSpec.upto charsJoinSpec)

/-- 'topiarylaw11.CharsNames', WHERE WHAT IT READS IS OF BULK AT MOST 1048576: true; the input reads as it did. -/
def charsNamesUptoRow : OpenClaim := { program := "ytekkaoenabjeiaa", sum := "02a187e7d3f000600a1be259df71f1a494d9e8364dc191a2facf30531102181a", func := "topiary/topiarylaw11.CharsNames", spec := "charsNames", inPlace := ["internal/bytealg.IndexByteString", "internal/bytealg.IndexString", "internal/abi.NoEscape"], unfollowed := true, recurses := true, named := ["internal/bytealg.MaxLen"], apart := false, narrowed := true }
def CharsNamesUptoSaid : Prop := charsNamesUptoRow.holds Try.pinned (OpenSpec.upto charsNamesSpec)

/-- 'topiarylaw12.LexerPieces', WHERE WHAT IT READS IS OF BULK AT MOST 1048576: true; the input reads as it did. -/
def lexerPiecesUptoRow : OpenClaim := { program := "ytekkaoenabjeiaa", sum := "02a187e7d3f000600a1be259df71f1a494d9e8364dc191a2facf30531102181a", func := "topiary/topiarylaw12.LexerPieces", spec := "lexerPieces", inPlace := ["internal/bytealg.IndexByteString", "internal/bytealg.IndexString", "internal/abi.NoEscape"], unfollowed := true, recurses := true, named := ["internal/bytealg.MaxLen"], apart := false, narrowed := true }
def LexerPiecesUptoSaid : Prop := lexerPiecesUptoRow.holds Try.pinned (OpenSpec.upto lexerPiecesSpec)

/-- 'topiarylaw12.LexerStands', WHERE WHAT IT READS IS OF BULK AT MOST 1048576: true; the input reads as it did. -/
def lexerStandsUptoRow : OpenClaim := { program := "ytekkaoenabjeiaa", sum := "02a187e7d3f000600a1be259df71f1a494d9e8364dc191a2facf30531102181a", func := "topiary/topiarylaw12.LexerStands", spec := "lexerStands", inPlace := ["internal/bytealg.IndexByteString", "internal/bytealg.IndexString", "internal/abi.NoEscape"], unfollowed := true, recurses := true, named := ["internal/bytealg.MaxLen"], apart := false, narrowed := true }
def LexerStandsUptoSaid : Prop := lexerStandsUptoRow.holds Try.pinned (OpenSpec.upto lexerStandsSpec)

/-- 'topiarylaw12.LexerJoins', WHERE WHAT IT READS IS OF BULK AT MOST 1048576: true; the input reads as it did. -/
def lexerJoinsUptoRow : OpenClaim := { program := "ytekkaoenabjeiaa", sum := "02a187e7d3f000600a1be259df71f1a494d9e8364dc191a2facf30531102181a", func := "topiary/topiarylaw12.LexerJoins", spec := "lexerJoins", inPlace := ["internal/bytealg.IndexByteString", "internal/bytealg.IndexString", "internal/abi.NoEscape"], unfollowed := true, recurses := true, named := ["internal/bytealg.MaxLen"], apart := false, narrowed := true }
def LexerJoinsUptoSaid : Prop := lexerJoinsUptoRow.holds Try.pinned (OpenSpec.upto lexerJoinsSpec)

/-- 'topiarylaw12.LexerWrites', WHERE WHAT IT READS IS OF BULK AT MOST 1048576: true; the input reads as it did. -/
def lexerWritesUptoRow : OpenClaim := { program := "ytekkaoenabjeiaa", sum := "02a187e7d3f000600a1be259df71f1a494d9e8364dc191a2facf30531102181a", func := "topiary/topiarylaw12.LexerWrites", spec := "lexerWrites", inPlace := ["internal/bytealg.IndexByteString", "internal/bytealg.IndexString", "internal/abi.NoEscape"], unfollowed := true, recurses := true, named := ["internal/bytealg.MaxLen"], apart := false, narrowed := true }
def LexerWritesUptoSaid : Prop := lexerWritesUptoRow.holds Try.pinned (OpenSpec.upto lexerWritesSpec)

/-- 'topiarylaw12.LexerTexts', WHERE WHAT IT READS IS OF BULK AT MOST 1048576: true; the input reads as it did. -/
def lexerTextsUptoRow : OpenClaim := { program := "ytekkaoenabjeiaa", sum := "02a187e7d3f000600a1be259df71f1a494d9e8364dc191a2facf30531102181a", func := "topiary/topiarylaw12.LexerTexts", spec := "lexerTexts", inPlace := ["internal/bytealg.IndexByteString", "internal/bytealg.IndexString", "internal/abi.NoEscape"], unfollowed := true, recurses := true, named := ["internal/bytealg.MaxLen"], apart := false, narrowed := true }
def LexerTextsUptoSaid : Prop := lexerTextsUptoRow.holds Try.pinned (OpenSpec.upto lexerTextsSpec)

/-- 'topiarylaw12.LexerLimit', WHERE WHAT IT READS IS OF BULK AT MOST 1048576: true; the input reads as it did. -/
def lexerLimitUptoRow : OpenClaim := { program := "ytekkaoenabjeiaa", sum := "02a187e7d3f000600a1be259df71f1a494d9e8364dc191a2facf30531102181a", func := "topiary/topiarylaw12.LexerLimit", spec := "lexerLimit", inPlace := ["internal/bytealg.IndexByteString", "internal/bytealg.IndexString", "internal/abi.NoEscape"], unfollowed := true, recurses := true, named := ["internal/bytealg.MaxLen"], apart := false, narrowed := true }
def LexerLimitUptoSaid : Prop := lexerLimitUptoRow.holds Try.pinned (OpenSpec.upto lexerLimitSpec)

end Rows
end Go.Proofs.Ytekkaoenabjeiaa
