/- Parts of the proof of canonTrees_holds, kept and merged by a program of mine (wip/tools/slim.py) out of my texts: StrE -/
import Derived.Test.YtlhhhlimjajnlaaGreatSPt7
import Derived.Test.YtlhhhlimjajnlaaGreatSPt1
section
set_option linter.unusedVariables false
set_option linter.unusedSimpArgs false
namespace Go.Proofs.YtlhhhlimjajnlaaGreat.X
open Go.RowKit Go.Proofs.YtlhhhlimjajnlaaGreatW.PrintWords
def strings_Cut.f (a0 a1 : ByteArray) : Option (ByteArray × ByteArray × Bool) :=
 if a0.size < 4294967281 ∧ a1.size = 1 then some (⟨(Lib.cut a0.data.toList a1.data.toList).1.toArray⟩, ⟨(Lib.cut a0.data.toList a1.data.toList).2.1.toArray⟩, (Lib.cut a0.data.toList a1.data.toList).2.2) else none
theorem strings_Cut.calls (a0 a1 : ByteArray) (r1 r2 : ByteArray) (r3 : Bool) (w : World) (h : strings_Cut.f a0 a1 = some (r1, r2, r3)) :
 Calls Tryz.prog 109 #[.string a0, .string a1] w fun e w' => e = .returned (.tuple #[.string r1, .string r2, .bool r3]) ∧ Drawn0 w w' := by
 unfold strings_Cut.f at h
 split at h
 ·rename_i hs
  obtain ⟨hs, h1⟩ := hs
  simp only [Option.some.injEq, Prod.mk.injEq] at h
  obtain ⟨rfl, rfl, rfl⟩ := h
  obtain ⟨⟨l⟩⟩ := a1
  match l, h1 with
  | [c], _ =>
   refine (cut_one a0 c w hs).mono ?_
   rintro e w' ⟨rfl, n, rfl⟩
   exact ⟨rfl, ⟨⟨n, rfl⟩⟩⟩
 ·cases h
def strings_IndexByte.f (a0 : ByteArray) (a1 : Int) : Option Int := some (Lib.indexByte a0.data.toList a1.toNat.toUInt8)
theorem strings_IndexByte.calls (a0 : ByteArray) (a1 : Int) (r : Int) (w : World) (h : strings_IndexByte.f a0 a1 = some r) :
 Calls Tryz.prog 112 #[.string a0, .int .u8 a1] w fun e w' => e = .returned (.int .i64 r) ∧ Drawn0 w w' := by
 obtain rfl := Option.some.inj h
 refine (Tryz.strings_IndexByte a0 a1 w).mono ?_
 rintro e w' ⟨rfl, rfl⟩
 exact ⟨rfl, Drawn0.refl _⟩
end Go.Proofs.YtlhhhlimjajnlaaGreat.X
end
