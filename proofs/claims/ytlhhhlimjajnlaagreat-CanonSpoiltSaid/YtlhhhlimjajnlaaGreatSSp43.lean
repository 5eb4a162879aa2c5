/- Parts of the proof of canonSpoilt_holds, kept and merged by a program of mine (wip/tools/slim.py) out of my texts: Go -/
import Derived.Shelf.Vars
import Derived.HandedShaped
import Derived.Test.YtlhhhlimjajnlaaGreatSSp9
section
namespace Go.Proofs.YtlhhhlimjajnlaaGreat.X
open Go.RowKit
theorem G_of {w : World} (h : w.ShapedOpen Tryz.prog) : G w :=
 Go.Proofs.cell_of_shapedOpen_int (zero := #[.int .i64 0]) (t := 3) h (of_decide_eq_true (by kernel_rfl)) (by kernel_rfl) rfl (by kernel_rfl) (by kernel_rfl) Tryz.underlying3
end Go.Proofs.YtlhhhlimjajnlaaGreat.X
end
