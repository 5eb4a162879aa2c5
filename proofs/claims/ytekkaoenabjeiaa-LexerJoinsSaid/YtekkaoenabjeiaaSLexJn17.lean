/- Parts of the proof of lexerJoins_holds, kept and merged by a program of mine (wip/tools/slim.py) out of my texts: RefE -/
import Derived.Handy
import Derived.WalkMore
import Derived.Lib.Hide
import Derived.BigQuiet
import Derived.Deep.QuietTactic
import Derived.Deep.RegionHeld3
import Derived.Deep.RegionWith
import Derived.Test.YtekkaoenabjeiaaSLexJn16
section
set_option linter.unusedVariables false
set_option linter.unusedSimpArgs false
namespace Go.Proofs.Ytekkaoenabjeiaa.RefE
open Go Go.RowKit Go.Proofs.Ytekkaoenabjeiaa Go.Proofs.Ytekkaoenabjeiaa.Q Go.Proofs.Ytekkaoenabjeiaa.P11 Go.Proofs.YtekkaoenabjeiaaW.PrintWords
theorem begins_c (s : ByteArray) (i : Int) (t : ByteArray) (b : Bool) (w : World) (hs : s.size ≤ 4294967296) (ht : t.size ≤ 4294967296) (h : begB s.data.toList i t.data.toList = b) :
    Calls Try.prog 47 #[.string s, .int .i64 i, .string t] w fun e w' => e = .returned (.bool b) ∧ Drawn0 w w' :=
  topiaryref11_begins.calls s i t b w (by rw [begins_f s i t hs ht, h])
end Go.Proofs.Ytekkaoenabjeiaa.RefE
namespace Go.Proofs.Ytekkaoenabjeiaa.X
open Go.RowKit Go.Proofs.YtekkaoenabjeiaaW.PrintWords
end Go.Proofs.Ytekkaoenabjeiaa.X
end
