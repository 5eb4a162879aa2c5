/- Whatever number, and whatever bytes of at most 10 behind it: a code point that is written has one to four bytes and is read again, its bytes less the last one are none, and what is no code point is not written. No condition. -/
import Derived.Test.YtekkaoenabjeiaaQ11
import Derived.Test.YtekkaoenabjeiaaP11f
set_option linter.unusedVariables false
set_option linter.unusedSimpArgs false
namespace Go.Proofs.Ytekkaoenabjeiaa.Pure
open Go Go.RowKit Go.Proofs.Ytekkaoenabjeiaa Go.Proofs.Ytekkaoenabjeiaa.Q Go.Proofs.YtekkaoenabjeiaaW.PrintWords Go.Proofs.Ytekkaoenabjeiaa.X Go.Proofs.Ytekkaoenabjeiaa.P11

theorem runeP0 (l : List UInt8) : runeP l 0 = decL l := by
  unfold runeP
  cases l with
  | nil => rfl
  | cons a t => rw [if_pos ⟨by omega, by simp⟩]; rfl
/-- the bytes of a character less the last one are none -/
theorem dec_short (c : Int) (hp : pointB c = true) : (decL ((encL c).take ((encL c).length - 1))).2 = 0 := by
  by_cases h : (decL ((encL c).take ((encL c).length - 1))).2 = 0
  · exact h
  · exfalso
    obtain ⟨hp2, hs2, t, ht⟩ := enc_dec _ h
    have h1 : encL c = encL (decL ((encL c).take ((encL c).length - 1))).1 ++ (t ++ (encL c).drop ((encL c).length - 1)) := by
      rw [← List.append_assoc, ← ht, List.take_append_drop]
    have d1 := dec_enc _ hp2 (t ++ (encL c).drop ((encL c).length - 1))
    rw [← h1] at d1
    have d2 := dec_enc c hp []
    rw [List.append_nil, d1] at d2
    simp only [Prod.mk.injEq] at d2
    have l1 := enc_len c hp
    have l2 := enc_len _ hp2
    have l3 := congrArg List.length ht
    rw [List.length_append, List.length_take] at l3
    have := sizeN_range c
    rw [d2.1] at l2 l3
    omega

theorem CharsBack : topiarylaw11_CharsBack.Pure := by
  intro c s hc hs
  obtain ⟨t, ht, hsz, hl⟩ := short_f s 10
  refine ⟨200, ?_⟩
  unfold topiarylaw11_CharsBack.f
  rw [show ((10 : Nat) : Int) = 10 from rfl] at ht
  have ha : topiarylaw11_awake.f 200 = some true := awake_f 140
  have he : chars_Encode.f 200 c = some ⟨(encL c).toArray⟩ := cencode_f c 195
  rw [ha, Option.bind_some, ht, Option.bind_some, he, Option.bind_some, mk_toList]
  have hsize : (⟨(encL c).toArray⟩ : ByteArray).size = (encL c).length := by simp [ByteArray.size]
  by_cases hp : pointB c = true
  · have hne : ¬ encL c = [] := fun e => by rw [(enc_nil c).1 e] at hp; cases hp
    have hlen := enc_len c hp
    have hr := sizeN_range c
    have happ : ((⟨(encL c).toArray⟩ : ByteArray) ++ t).size = (encL c).length + t.size := by rw [ByteArray.size_append, hsize]
    rw [if_neg hne, if_pos (by rw [hsize]; omega), chars_Rune.f, if_pos (by rw [happ]; omega), Option.bind_some, chars_Rune.f, if_pos (by rw [hsize]; omega), Option.bind_some, hsize, cwr _ (by omega) (by omega), if_pos (by omega), if_pos (by omega)]
    have hdat : ((⟨(encL c).toArray⟩ : ByteArray) ++ t).data.toList = encL c ++ t.data.toList := by rw [ByteArray.data_append, Array.toList_append]
    have hcut : ((⟨(encL c).toArray⟩ : ByteArray).extract 0 (((encL c).length : Int) - 1).toNat).data.toList = (encL c).take ((encL c).length - 1) := by
      rw [Lib.extract_data, List.drop_zero]
      congr 1
      omega
    have hcs : ((⟨(encL c).toArray⟩ : ByteArray).extract 0 (((encL c).length : Int) - 1).toNat).size ≤ 4294967296 := by
      rw [Lib.size_eq, hcut, List.length_take]; omega
    rw [chars_Rune.f, if_pos hcs, Option.bind_some, hdat, hcut, runeP0, runeP0, dec_enc c hp]
    have hout : runeP (⟨(encL c).toArray⟩ : ByteArray).data.toList ((encL c).length : Int) = (-1, 0) := by
      unfold runeP
      rw [if_neg]
      rintro ⟨_, h⟩
      have : (⟨(encL c).toArray⟩ : ByteArray).data.toList.length = (encL c).length := rfl
      omega
    rw [hout, if_pos rfl, if_pos rfl, if_pos (by simp only; omega), if_pos (by simp only; omega), if_pos rfl, if_pos rfl, dec_short c hp]
    rfl
  · have hpf : pointB c = false := Bool.eq_false_iff.2 hp
    have hnil : encL c = [] := (enc_nil c).2 hpf
    rw [if_pos hnil, chars_Rune.f, if_pos (by omega), Option.bind_some, if_pos rfl, runeP0]
    have hbad : c < 0 ∨ c > 1114111 ∨ (55296 ≤ c ∧ c ≤ 57343) := by
      unfold pointB at hpf
      simp at hpf
      omega
    have hend : (if (decL t.data.toList).2 = 0 then (if (decL t.data.toList).1 = -1 then some true else some ((decL t.data.toList).1 != c)) else some ((decL t.data.toList).1 != c)) = some true := by
      by_cases h0 : (decL t.data.toList).2 = 0
      · rw [if_pos h0, dec_none _ h0, if_pos rfl]
      · rw [if_neg h0]
        have := (enc_dec _ h0).1
        congr 1
        rw [bne_iff_ne]
        rintro rfl
        exact hp this
    rw [hend]
    by_cases g1 : c < 0
    · rw [if_pos g1]
    rw [if_neg g1]
    by_cases g2 : c > 1114111
    · rw [if_pos g2]
    rw [if_neg g2, if_pos (by omega), if_pos (by omega)]

end Go.Proofs.Ytekkaoenabjeiaa.Pure
