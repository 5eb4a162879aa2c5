/- Parts of the proof of lexerWrites_holds, kept and merged by a program of mine (wip/tools/slim.py) out of my texts: RefE -/
import Derived.Handy
import Derived.WalkMore
import Derived.Lib.Hide
import Derived.BigQuiet
import Derived.Deep.QuietTactic
import Derived.Deep.RegionHeld3
import Derived.Deep.RegionWith
import Derived.Test.YtjlgenefjebcaaaSLw18
section
set_option linter.unusedVariables false
set_option linter.unusedSimpArgs false
namespace Go.Proofs.Ytjlgenefjebcaaa.RefE
open Go Go.RowKit Go.Proofs.Ytjlgenefjebcaaa Go.Proofs.Ytjlgenefjebcaaa.Q Go.Proofs.Ytjlgenefjebcaaa.P11 Go.Proofs.YtjlgenefjebcaaaW.PrintWords
theorem begins_c (s : ByteArray) (i : Int) (t : ByteArray) (b : Bool) (w : World) (hs : s.size ≤ 4294967296) (ht : t.size ≤ 4294967296) (h : begB s.data.toList i t.data.toList = b) :
    Calls Try.prog 30 #[.string s, .int .i64 i, .string t] w fun e w' => e = .returned (.bool b) ∧ Drawn0 w w' :=
  topiaryref11_begins.calls s i t b w (by rw [begins_f s i t hs ht, h])
end Go.Proofs.Ytjlgenefjebcaaa.RefE
namespace Go.Proofs.Ytjlgenefjebcaaa.X
open Go.RowKit Go.Proofs.YtjlgenefjebcaaaW.PrintWords
end Go.Proofs.Ytjlgenefjebcaaa.X
end
