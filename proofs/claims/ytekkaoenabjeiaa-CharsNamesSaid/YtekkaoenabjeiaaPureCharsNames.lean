/- Whatever text of at most 40 bytes, whatever place and byte: where names end and spaces end, what is a space and what is a name, the program tells as the document's reference. No condition. -/
import Derived.Test.YtekkaoenabjeiaaQ22
import Derived.Test.YtekkaoenabjeiaaP11f
set_option linter.unusedVariables false
set_option linter.unusedSimpArgs false
namespace Go.Proofs.Ytekkaoenabjeiaa.Pure
open Go Go.RowKit Go.Proofs.Ytekkaoenabjeiaa Go.Proofs.Ytekkaoenabjeiaa.Q Go.Proofs.YtekkaoenabjeiaaW.PrintWords Go.Proofs.Ytekkaoenabjeiaa.X Go.Proofs.Ytekkaoenabjeiaa.P11

theorem names_j (t : ByteArray) (hsz : t.size ≤ 40) (a : Int) (c : UInt8) (b : Bool) (hb : b = if t.data.toList = [] then false else nameEndP t.data.toList 0 == (t.size : Int)) :
    topiarylaw11_CharsNames.j0 200 t a c.toNat true b = some true := by
  have n1 : topiaryref11_NameEnd.f 199 t a = some (nameEndP t.data.toList a) := by rw [show (199 : Nat) = 2 * t.size + 2 + (197 - 2 * t.size) from by omega]; exact ref_name_f t a (by omega) _
  have n2 : topiaryref11_Skip.f 199 t a = some (skipP t.data.toList a) := by rw [show (199 : Nat) = 2 * t.size + 2 + (197 - 2 * t.size) from by omega]; exact ref_skip_f t a (by omega) _
  rw [topiarylaw11_CharsNames.j0, if_pos rfl, chars_NameEnd.f, if_pos (by omega), Option.bind_some, n1, Option.bind_some, if_pos rfl, chars_Skip.f, if_pos (by omega), Option.bind_some, n2, Option.bind_some, if_pos rfl, space_f, Option.bind_some, ref_space_f, Option.bind_some, if_pos (by simp), name_f t (by omega), Option.bind_some, hb]
  simp

theorem CharsNames : topiarylaw11_CharsNames.Pure := by
  intro s a c0 hs ha hc0
  obtain ⟨c, rfl⟩ : ∃ c : UInt8, c0 = (c.toNat : Int) := by
    have h : 0 ≤ c0 ∧ c0 ≤ 255 := by
      simp [Lit.wf] at hc0
      have h1 : IntKind.u8.min = 0 := rfl
      have h2 : IntKind.u8.max = 255 := rfl
      omega
    refine ⟨UInt8.ofNat c0.toNat, ?_⟩
    rw [UInt8.toNat_ofNat']
    omega
  obtain ⟨t, ht, hsz, hl⟩ := short_f s 40
  refine ⟨200, ?_⟩
  unfold topiarylaw11_CharsNames.f
  rw [show ((40 : Nat) : Int) = 40 from rfl] at ht
  have ha : topiarylaw11_awake.f 200 = some true := awake_f 140
  have n1 : topiaryref11_NameEnd.f 200 t 0 = some (nameEndP t.data.toList 0) := by rw [show (200 : Nat) = 2 * t.size + 2 + (198 - 2 * t.size) from by omega]; exact ref_name_f t 0 (by omega) _
  rw [ha, Option.bind_some, ht, Option.bind_some]
  by_cases h : (t.size : Int) > 0
  · rw [if_pos h, n1, Option.bind_some]
    refine names_j t hsz a c _ ?_
    rw [if_neg (fun e => by have := len_data t; rw [e] at this; simp at this; omega)]
  · rw [if_neg h]
    refine names_j t hsz a c _ ?_
    rw [if_pos (List.eq_nil_of_length_eq_zero (by rw [len_data]; omega))]

end Go.Proofs.Ytekkaoenabjeiaa.Pure
