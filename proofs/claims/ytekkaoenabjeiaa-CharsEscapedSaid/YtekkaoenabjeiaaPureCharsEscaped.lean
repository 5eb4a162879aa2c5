/- Whatever text of at most 40 bytes: escaped it has no <, no > and no ", and it is the text again, its entities put in their place. No condition. -/
import Derived.Test.YtekkaoenabjeiaaQ12
import Derived.Test.YtekkaoenabjeiaaP11f
set_option linter.unusedVariables false
set_option linter.unusedSimpArgs false
namespace Go.Proofs.Ytekkaoenabjeiaa.Pure
open Go Go.RowKit Go.Proofs.Ytekkaoenabjeiaa Go.Proofs.Ytekkaoenabjeiaa.Q Go.Proofs.YtekkaoenabjeiaaW.PrintWords Go.Proofs.Ytekkaoenabjeiaa.X Go.Proofs.Ytekkaoenabjeiaa.P11

theorem drop_head {s : ByteArray} {n : Nat} {c : UInt8} {r : List UInt8} (h : s.data.toList.drop n = c :: r) : ∃ hn : n < s.size, s[n] = c ∧ s.data.toList.drop (n + 1) = r := by
  have hn : n < s.size := by
    by_cases hn : n < s.size
    · exact hn
    · rw [List.drop_of_length_le (by rw [len_data]; omega)] at h; cases h
  rw [drop_cons s n hn] at h
  simp only [List.cons.injEq] at h
  exact ⟨hn, h.1, h.2⟩

theorem esc_ent (b : UInt8) (h : b = 38 ∨ b = 60 ∨ b = 62 ∨ b = 34) (r : List UInt8) : entL (escB b ++ r) = ([b], ((escB b).length : Int)) := by
  rcases h with rfl | rfl | rfl | rfl <;> rfl
theorem esc_amp (b : UInt8) (h : b = 38 ∨ b = 60 ∨ b = 62 ∨ b = 34) : ∃ r, escB b = 38 :: r := by
  rcases h with rfl | rfl | rfl | rfl
  · exact ⟨_, rfl⟩
  · exact ⟨_, rfl⟩
  · exact ⟨_, rfl⟩
  · exact ⟨_, rfl⟩

theorem app_size (t : ByteArray) (l : List UInt8) : (t ++ (⟨l.toArray⟩ : ByteArray)).size = t.size + l.length := by
  have h : (⟨l.toArray⟩ : ByteArray).size = l.length := by simp [ByteArray.size]
  rw [ByteArray.size_append, h]

theorem escd_l0 (t e : ByteArray) (he : e.size ≤ 300) (ht : t.size ≤ 40) (d : Nat) : ∀ (m i k : Nat) (back : ByteArray), t.size - m = d → m ≤ t.size → 2 * d + 30 ≤ k → e.data.toList.drop i = escL (t.data.toList.drop m) → i ≤ e.size → back.data.toList = t.data.toList.take m → back.size = m →
    topiarylaw11_CharsEscaped.l0 k t true e back i = some true := by
  induction d with
  | zero =>
    intro m i k back hd hm hk hdr hi hb hbs
    obtain ⟨k, rfl⟩ : ∃ j, k = j + 1 := ⟨k - 1, by omega⟩
    have hmt : m = t.size := by omega
    have htn : escL (t.data.toList.drop m) = [] := by rw [List.drop_of_length_le (by rw [len_data]; omega)]; rfl
    rw [htn] at hdr
    have hie : i = e.size := by
      have h := congrArg List.length hdr
      rw [List.length_drop, len_data] at h
      simp at h
      omega
    rw [topiarylaw11_CharsEscaped.l0, if_neg (by omega), if_pos rfl, Lib.toList_data, Lib.toList_data, hb, hmt, List.take_of_length_le (by rw [len_data]; omega)]
    simp
  | succ d ih =>
    intro m i k back hd hm hk hdr hi hb hbs
    obtain ⟨k, rfl⟩ : ∃ j, k = j + 2 := ⟨k - 2, by omega⟩
    have hmt : m < t.size := by omega
    obtain ⟨b, hbm⟩ : ∃ b, t[m] = b := ⟨_, rfl⟩
    have hcons : escL (t.data.toList.drop m) = escB b ++ escL (t.data.toList.drop (m + 1)) := by
      rw [drop_cons t m hmt, hbm]
      simp [escL]
    rw [hcons] at hdr
    have htk : ∀ back2 : ByteArray, back2 = back ++ ⟨[b].toArray⟩ → back2.data.toList = t.data.toList.take (m + 1) ∧ back2.size = m + 1 := by
      rintro _ rfl
      refine ⟨?_, by rw [app_size, hbs]; rfl⟩
      have hl : m < t.data.toList.length := by rw [len_data]; exact hmt
      rw [ByteArray.data_append, Array.toList_append, hb, List.take_succ_eq_append_getElem hl]
      congr 1
      rw [← hbm]
      rfl
    by_cases hs : b = 38 ∨ b = 60 ∨ b = 62 ∨ b = 34
    · obtain ⟨r, hr⟩ := esc_amp b hs
      have hdr2 := hdr
      rw [hr, List.cons_append] at hdr2
      obtain ⟨hi2, hc, hrest⟩ := drop_head hdr2
      have hbt : bt e (i : Int) = 38 := by rw [bt_get e i hi2, hc]; rfl
      have hent : entP e.data.toList (i : Int) = ([b], ((escB b).length : Int)) := by
        unfold entP
        rw [if_pos ⟨by omega, by rw [len_data]; omega⟩, Int.toNat_natCast, hdr, esc_ent b hs]
      have hlen := escB_len b
      have hpos : 1 ≤ (escB b).length := by rw [hr]; simp
      have hadv : e.data.toList.drop (i + (escB b).length) = escL (t.data.toList.drop (m + 1)) := by
        rw [← List.drop_drop, hdr, List.drop_left]
      have hle : i + (escB b).length ≤ e.size := by
        have h := congrArg List.length hdr
        rw [List.length_drop, len_data, List.length_append] at h
        omega
      rw [topiarylaw11_CharsEscaped.l0, if_pos (by omega), if_pos (by omega), hbt, if_neg (by decide), if_neg (by decide), show ((38 : Int) == 34) = false from rfl, topiarylaw11_CharsEscaped.j1, if_neg (by decide), if_pos rfl, show k = (k - 20) + 20 from by omega, centity_f e i (by omega), Option.bind_some, hent]
      simp only
      rw [if_neg (by omega), if_pos (by rw [show (⟨[b].toArray⟩ : ByteArray).size = 1 from rfl]; omega), wr _ (by omega) (by omega), show (i : Int) + ((escB b).length : Int) = ((i + (escB b).length : Nat) : Int) from by omega]
      obtain ⟨q1, q2⟩ := htk _ rfl
      exact ih (m + 1) _ _ _ (by omega) (by omega) (by omega) hadv hle q1 q2
    · have h1 : ¬ b = 38 := fun e => hs (.inl e)
      have h2 : ¬ b = 60 := fun e => hs (.inr (.inl e))
      have h3 : ¬ b = 62 := fun e => hs (.inr (.inr (.inl e)))
      have h4 : ¬ b = 34 := fun e => hs (.inr (.inr (.inr e)))
      have he1 : escB b = [b] := by unfold escB; rw [if_neg h1, if_neg h2, if_neg h3, if_neg h4]
      rw [he1, List.cons_append, List.nil_append] at hdr
      obtain ⟨hi2, hc, hrest⟩ := drop_head hdr
      have hbt : bt e (i : Int) = (b.toNat : Int) := by rw [bt_get e i hi2, hc]
      have hne : ∀ x : UInt8, ¬ b = x → ¬ ((b.toNat : Int) = (x.toNat : Int)) := fun x h e => h (UInt8.toNat_inj.1 (by omega))
      have n1 : ¬ ((b.toNat : Int) = 38) := hne 38 h1
      have n2 : ¬ ((b.toNat : Int) = 60) := hne 60 h2
      have n3 : ¬ ((b.toNat : Int) = 62) := hne 62 h3
      have n4 : ((b.toNat : Int) == 34) = false := by rw [beq_eq_false_iff_ne]; exact hne 34 h4
      have hex : e.extract ((i : Int)).toNat (((i + 1 : Nat) : Int)).toNat = ⟨[b].toArray⟩ := by
        rw [Lib.extract_eq, Int.toNat_natCast, Int.toNat_natCast, hdr, show i + 1 - i = 1 from by omega]
        rfl
      rw [topiarylaw11_CharsEscaped.l0, if_pos (by omega), if_pos (by omega), hbt, if_neg n2, if_neg n3, n4, topiarylaw11_CharsEscaped.j1, if_neg (by decide), if_neg n1, if_pos (by omega), wr ((i : Int) + 1) (by omega) (by omega), show (i : Int) + 1 = ((i + 1 : Nat) : Int) from by omega, if_pos (by omega), if_pos (by omega), hex, if_pos (by rw [show (⟨[b].toArray⟩ : ByteArray).size = 1 from rfl]; omega)]
      obtain ⟨q1, q2⟩ := htk _ rfl
      exact ih (m + 1) _ _ _ (by omega) (by omega) (by omega) hrest (by omega) q1 q2

theorem CharsEscaped : topiarylaw11_CharsEscaped.Pure := by
  intro s hs
  obtain ⟨t, ht, hsz, hl⟩ := short_f s 40
  refine ⟨200, ?_⟩
  unfold topiarylaw11_CharsEscaped.f
  rw [show ((40 : Nat) : Int) = 40 from rfl] at ht
  have ha : topiarylaw11_awake.f 200 = some true := awake_f 140
  rw [ha, Option.bind_some, ht, Option.bind_some, chars_Escape.f, if_pos (by omega), Option.bind_some]
  have hlen := escL_len t.data.toList
  rw [len_data] at hlen
  exact escd_l0 t ⟨(escL t.data.toList).toArray⟩ (by simp [ByteArray.size]; omega) hsz t.size 0 0 200 ⟨#[]⟩ rfl (by omega) (by omega) rfl (by omega) rfl rfl

end Go.Proofs.Ytekkaoenabjeiaa.Pure
