/- Whatever text of at most 40 bytes, and whatever place: what stands for a character there is read, and a text is escaped, by the program as by the document's reference. No condition. -/
import Derived.Test.YtekkaoenabjeiaaQ10
import Derived.Test.YtekkaoenabjeiaaP11f
set_option linter.unusedVariables false
set_option linter.unusedSimpArgs false
namespace Go.Proofs.Ytekkaoenabjeiaa.Pure
open Go Go.RowKit Go.Proofs.Ytekkaoenabjeiaa Go.Proofs.Ytekkaoenabjeiaa.Q Go.Proofs.YtekkaoenabjeiaaW.PrintWords Go.Proofs.Ytekkaoenabjeiaa.X Go.Proofs.Ytekkaoenabjeiaa.P11

theorem CharsEntities : topiarylaw11_CharsEntities.Pure := by
  intro s a hs ha
  obtain ⟨t, ht, hsz, hl⟩ := short_f s 40
  refine ⟨200, ?_⟩
  unfold topiarylaw11_CharsEntities.f
  rw [show (200 : Nat) = 60 + 140 from rfl, awake_f, Option.bind_some]
  rw [show ((40 : Nat) : Int) = 40 from rfl] at ht
  rw [ht, Option.bind_some, show 60 + 140 = 180 + 20 from rfl, centity_f t a (by omega), Option.bind_some, topiaryref11_Entity.f, if_pos (by omega), Option.bind_some, refEnt_eq, if_pos rfl, if_pos rfl, if_pos rfl, chars_Escape.f, if_pos (by omega), Option.bind_some, show 180 + 20 = t.size + 1 + (199 - t.size) from by omega, ref_escape_f t (by omega), Option.bind_some]
  simp

end Go.Proofs.Ytekkaoenabjeiaa.Pure
