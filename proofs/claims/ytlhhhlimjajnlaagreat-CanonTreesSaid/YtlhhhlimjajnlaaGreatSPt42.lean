/- Parts of the proof of canonTrees_holds, kept and merged by a program of mine (wip/tools/slim.py) out of my texts: P14a -/
import Derived.Test.YtlhhhlimjajnlaaGreatSPt41
import Derived.Test.YtlhhhlimjajnlaaGreatSPt39
section
set_option linter.unusedVariables false
set_option linter.unusedSimpArgs false
namespace Go.Proofs.YtlhhhlimjajnlaaGreat.P14
open Go.RowKit Go.Proofs.YtlhhhlimjajnlaaGreat Go.Proofs.YtlhhhlimjajnlaaGreat.Q Go.Proofs.YtlhhhlimjajnlaaGreat.P11 Go.Proofs.YtlhhhlimjajnlaaGreat.P12 Go.Proofs.YtlhhhlimjajnlaaGreatW.PrintWords Go.Proofs.YtlhhhlimjajnlaaGreat.X Go.Proofs.YtlhhhlimjajnlaaGreat.P13
def exC : ByteArray := ⟨#[60, 97, 32, 98, 61, 39, 38, 103, 116, 59, 39, 32, 62, 120, 60, 99, 47, 62, 60, 47, 97, 62]⟩
def psC : PS := ⟨[⟨1, 0, -1, ⟨#[]⟩⟩, ⟨2, 0, 0, ⟨#[62]⟩⟩, ⟨3, -1, 0, ⟨#[120]⟩⟩, ⟨1, 0, 0, ⟨#[]⟩⟩], [⟨#[97]⟩, ⟨#[98]⟩, ⟨#[]⟩, ⟨#[99]⟩], [], ⟨#[]⟩, false, false⟩
def nmC : List ByteArray := [⟨#[97]⟩, ⟨#[98]⟩, ⟨#[99]⟩]
def ndC : List Nod := [⟨1, 0, -1, ⟨#[]⟩⟩, ⟨2, 1, 0, ⟨#[62]⟩⟩, ⟨3, -1, 0, ⟨#[120]⟩⟩, ⟨1, 2, 0, ⟨#[]⟩⟩]
theorem exC_ps : flushP ((lexV exC).1.foldl X.stepT psZero) = psC := by kernel_rfl
theorem exC_ok : (lexV exC).2 = 0 := by kernel_rfl
theorem names_C : sortedP (namesOf psC) = [[97], [98], [99]] := by
 unfold sortedP
 rw [show onceP (namesOf psC) = [[97], [98], [99]] from by kernel_rfl]
 exact List.mergeSort_of_pairwise (by decide)
theorem exC_v : parseV exC = ((nmC, ndC), 0) := by
 rw [parse1 exC exC_ok, exC_ps]
 unfold treeP
 rw [names_C, if_neg (by decide), if_neg (by decide)]
 rfl
theorem exC_small : smallW nmC ndC = true := by kernel_rfl
theorem exC_w : writeV nmC ndC = (⟨#[60, 97, 32, 98, 61, 34, 38, 103, 116, 59, 34, 62, 120, 60, 99, 62, 60, 47, 99, 62, 60, 47, 97, 62]⟩, 0) := by kernel_rfl
def ouC : ByteArray := ⟨#[60, 97, 32, 98, 61, 34, 38, 103, 116, 59, 34, 62, 120, 60, 99, 62, 60, 47, 99, 62, 60, 47, 97, 62]⟩
theorem exC_write : canon_Write.f nmC ndC = some (ouC, 0) := by rw [canon_Write.f, if_pos exC_small, exC_w]; rfl
theorem exC_canon : canon_Canon.f exC = some (ouC, 0) := by
 unfold canon_Canon.f
 rw [parser_Parse.f, if_pos (by decide), exC_v, Option.bind_some]
 show (if (0 : Int) = 0 then (canon_Write.f nmC ndC).bind (fun b => some (b.1, b.2)) else _) = _
 rw [if_pos rfl, exC_write]; rfl
theorem awake14 : L4_awake.f = some true := by
 unfold L4_awake.f
 rw [show (⟨#[60, 97, 32, 98, 61, 39, 38, 103, 116, 59, 39, 32, 62, 120, 60, 99, 47, 62, 60, 47, 97, 62]⟩ : ByteArray) = exC from rfl, exC_canon, Option.bind_some]
 show (if ouC.toList = _ then some ((0 : Int) == 0) else some false) = some true
 rw [if_pos (by kernel_rfl)]; rfl
end Go.Proofs.YtlhhhlimjajnlaaGreat.P14
end
