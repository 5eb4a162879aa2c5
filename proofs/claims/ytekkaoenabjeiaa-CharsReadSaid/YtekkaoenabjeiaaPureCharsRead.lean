/- Whatever text of at most 40 bytes, whatever place and number: characters are read, written, told to be allowed, and texts told to be valid, by the program as by the document's reference. No condition. -/
import Derived.Test.YtekkaoenabjeiaaQ17
import Derived.Test.YtekkaoenabjeiaaP11f
set_option linter.unusedVariables false
set_option linter.unusedSimpArgs false
namespace Go.Proofs.Ytekkaoenabjeiaa.Pure
open Go Go.RowKit Go.Proofs.Ytekkaoenabjeiaa Go.Proofs.Ytekkaoenabjeiaa.Q Go.Proofs.YtekkaoenabjeiaaW.PrintWords Go.Proofs.Ytekkaoenabjeiaa.X Go.Proofs.Ytekkaoenabjeiaa.P11

theorem CharsRead : topiarylaw11_CharsRead.Pure := by
  intro s a c hs ha hc
  obtain ⟨t, ht, hsz, hl⟩ := short_f s 40
  refine ⟨200, ?_⟩
  unfold topiarylaw11_CharsRead.f
  rw [show (200 : Nat) = 60 + 140 from rfl, awake_f, Option.bind_some]
  rw [show ((40 : Nat) : Int) = 40 from rfl] at ht
  rw [ht, Option.bind_some, chars_Rune.f, if_pos (by omega), Option.bind_some, show 60 + 140 = 157 + 43 from rfl, ref_rune_f t a (by omega), Option.bind_some, if_pos rfl, if_pos rfl, if_pos rfl, show 157 + 43 = 195 + 5 from rfl, cencode_f, Option.bind_some, encode_f, Option.bind_some, if_pos rfl, show 195 + 5 = 199 + 1 from rfl, callowed_f, Option.bind_some, allowed_f, Option.bind_some, if_pos (by simp), show 199 + 1 = t.size + 2 + (198 - t.size) from by omega, valid_f t (by omega), Option.bind_some, show t.size + 2 + (198 - t.size) = t.size + 50 + (150 - t.size) from by omega, ref_valid_f t (by omega), Option.bind_some]
  simp

end Go.Proofs.Ytekkaoenabjeiaa.Pure
