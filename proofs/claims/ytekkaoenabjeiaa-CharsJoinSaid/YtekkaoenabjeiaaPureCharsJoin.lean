/- Whatever two texts of at most 40 bytes each: if the first one is valid, both together are valid just if the second one is; the empty text is valid. No condition. -/
import Derived.Test.YtekkaoenabjeiaaQ18
import Derived.Test.YtekkaoenabjeiaaP11f
set_option linter.unusedVariables false
set_option linter.unusedSimpArgs false
namespace Go.Proofs.Ytekkaoenabjeiaa.Pure
open Go Go.RowKit Go.Proofs.Ytekkaoenabjeiaa Go.Proofs.Ytekkaoenabjeiaa.Q Go.Proofs.YtekkaoenabjeiaaW.PrintWords Go.Proofs.Ytekkaoenabjeiaa.X Go.Proofs.Ytekkaoenabjeiaa.P11

theorem CharsJoin : topiarylaw11_CharsJoin.Pure := by
  intro s u hs hu
  obtain ⟨t, ht, hsz, hl⟩ := short_f s 40
  obtain ⟨v, hv, hsz2, hl2⟩ := short_f u 40
  refine ⟨200, ?_⟩
  unfold topiarylaw11_CharsJoin.f
  rw [show ((40 : Nat) : Int) = 40 from rfl] at ht hv
  have v1 : chars_Valid.f 200 t = some (validL t.data.toList) := by rw [show (200 : Nat) = t.size + 2 + (198 - t.size) from by omega]; exact valid_f t (by omega) _
  have v2 : chars_Valid.f 200 v = some (validL v.data.toList) := by rw [show (200 : Nat) = v.size + 2 + (198 - v.size) from by omega]; exact valid_f v (by omega) _
  have hsum : (t ++ v).size = t.size + v.size := ByteArray.size_append
  have v3 : chars_Valid.f 200 (t ++ v) = some (validL (t.data.toList ++ v.data.toList)) := by
    have h := valid_f (t ++ v) (by omega) (198 - (t ++ v).size)
    rw [show (t ++ v).size + 2 + (198 - (t ++ v).size) = 200 from by omega] at h
    rw [h, ByteArray.data_append, Array.toList_append]
  have v0 : chars_Valid.f 200 (⟨#[]⟩ : ByteArray) = some true := valid_f (⟨#[]⟩ : ByteArray) (by decide) 198
  have ha : topiarylaw11_awake.f 200 = some true := awake_f 140
  rw [ha, Option.bind_some, ht, Option.bind_some, hv, Option.bind_some, v1, Option.bind_some, v2, Option.bind_some, if_pos (by omega), v3, Option.bind_some, if_pos rfl, v0, Option.bind_some]
  by_cases h : validL t.data.toList = true
  · rw [if_pos h, valid_append _ _ h, if_pos (by simp)]
  · rw [if_neg h]

end Go.Proofs.Ytekkaoenabjeiaa.Pure
