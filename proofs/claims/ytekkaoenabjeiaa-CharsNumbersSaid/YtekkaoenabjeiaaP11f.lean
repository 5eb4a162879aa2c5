/- Plain laws shared by the statements of chapter 11: the chapter's examples, and a text of at most so many bytes. -/
import Derived.Test.YtekkaoenabjeiaaQ8
import Derived.Test.YtekkaoenabjeiaaP11d
import Derived.Test.YtekkaoenabjeiaaP11e
set_option linter.unusedVariables false
set_option linter.unusedSimpArgs false
namespace Go.Proofs.Ytekkaoenabjeiaa.P11
open Go Go.RowKit Go.Proofs.Ytekkaoenabjeiaa Go.Proofs.Ytekkaoenabjeiaa.Q Go.Proofs.YtekkaoenabjeiaaW.PrintWords Go.Proofs.Ytekkaoenabjeiaa.X

theorem awake60 : topiarylaw11_awake.f 60 = some true := by kernel_rfl
theorem awake_f (k : Nat) : topiarylaw11_awake.f (60 + k) = some true := at_rounds (fun k => topiarylaw11_awake.mono k) (Nat.le_add_right 60 k) awake60

theorem short_f (s : ByteArray) (n : Nat) : ∃ t : ByteArray, topiarylaw11_short.f s n = some t ∧ t.size ≤ n ∧ t.data.toList = s.data.toList.take n := by
  unfold topiarylaw11_short.f
  by_cases h : (s.size : Int) > (n : Int)
  · rw [if_pos h, if_pos (by omega), if_pos (by omega)]
    refine ⟨_, rfl, ?_, ?_⟩
    · rw [Lib.size_eq, Lib.extract_data, List.length_take, Int.toNat_natCast]; omega
    · rw [Lib.extract_data, Int.toNat_natCast, List.drop_zero, Nat.sub_zero]
  · rw [if_neg h]
    exact ⟨s, rfl, by omega, by rw [List.take_of_length_le (by rw [len_data]; omega)]⟩
theorem mk_toList (l : List UInt8) : (⟨l.toArray⟩ : ByteArray).toList = l := by rw [Lib.toList_data]

end Go.Proofs.Ytekkaoenabjeiaa.P11
