/- Plain laws of writing and reading a character, of texts that may be, of escaped texts: no program in sight. -/
import Derived.Test.YtekkaoenabjeiaaChSpec
set_option linter.unusedVariables false
set_option linter.unusedSimpArgs false
namespace Go.Proofs.Ytekkaoenabjeiaa.P11
open Go Go.Proofs.Ytekkaoenabjeiaa

theorem byteI_nat (x : Int) (h0 : 0 ≤ x) (h1 : x < 256) : ((byteI x).toNat : Int) = x := by
  unfold byteI
  rw [UInt8.toNat_ofNat']
  omega
theorem byteI_eq (x : Int) (b : UInt8) (h : x = (b.toNat : Int)) : byteI x = b := by
  apply UInt8.toNat_inj.1
  have := b.toNat_lt
  have := byteI_nat x (by omega) (by omega)
  omega
theorem runeLen1 (a : Nat) (h : a < 128) : runeLen a = 1 := by unfold runeLen; rw [if_neg (by omega), if_neg (by omega), if_neg (by omega), if_neg (by omega), if_neg (by omega)]
theorem runeLen2 (a : Nat) (h : 192 ≤ a) (h1 : a < 224) : runeLen a = 2 := by unfold runeLen; rw [if_neg (by omega), if_neg (by omega), if_neg (by omega), if_pos (by omega)]
theorem runeLen3 (a : Nat) (h : 224 ≤ a) (h1 : a < 240) : runeLen a = 3 := by unfold runeLen; rw [if_neg (by omega), if_neg (by omega), if_pos (by omega)]
theorem runeLen4 (a : Nat) (h : 240 ≤ a) (h1 : a < 248) : runeLen a = 4 := by unfold runeLen; rw [if_neg (by omega), if_pos (by omega)]

theorem point_range {c : Int} (hp : pointB c = true) : 0 ≤ c ∧ c ≤ 1114111 := by
  unfold pointB at hp
  simp at hp
  omega
theorem enc_len (c : Int) (hp : pointB c = true) : ((encL c).length : Int) = sizeN c := by
  unfold encL sizeN
  rw [if_pos hp]
  repeat' split
  all_goals rfl
theorem sizeN_range (c : Int) : 1 ≤ sizeN c ∧ sizeN c ≤ 4 := by
  unfold sizeN
  repeat' split
  all_goals omega
theorem enc_nil (c : Int) : encL c = [] ↔ pointB c = false := by
  constructor
  · intro h
    by_cases hp : pointB c = true
    · have := enc_len c hp
      have := sizeN_range c
      rw [h] at *
      simp at *
      omega
    · simpa using hp
  · intro h
    unfold encL
    rw [if_neg (by rw [h]; decide)]

theorem tail1 (code : Int) (x : UInt8) (t : List UInt8) (v : Int) (h : (x.toNat : Int) = 128 + v) (h0 : 0 ≤ v) (h1 : v < 64) : runeTail code (x :: t) = runeTail (code * 64 + v) t := by
  rw [runeTail, if_pos (by omega)]
  congr 1
  omega

theorem dec_enc (c : Int) (hp : pointB c = true) (t : List UInt8) : decL (encL c ++ t) = (c, sizeN c) := by
  have hb := point_range hp
  unfold encL sizeN
  rw [if_pos hp]
  by_cases h1 : c < 128
  · rw [if_pos h1, if_pos h1]
    have e0 := byteI_nat c hb.1 (by omega)
    show decL (byteI c :: t) = _
    rw [decL, runeLen1 _ (by omega), if_neg (by decide), if_neg (by omega)]
    simp only [show ((1 : Int) - 1).toNat = 0 from rfl, List.take_zero, runeTail]
    rw [e0, show leadN 1 = 0 from rfl, Int.sub_zero, hp, show sizeN c = 1 from by unfold sizeN; rw [if_pos h1]]
    rfl
  rw [if_neg h1, if_neg h1]
  by_cases h2 : c < 2048
  · rw [if_pos h2, if_pos h2]
    have e0 := byteI_nat (192 + c / 64) (by omega) (by omega)
    have e1 := byteI_nat (128 + c % 64) (by omega) (by omega)
    show decL (byteI (192 + c / 64) :: byteI (128 + c % 64) :: t) = _
    rw [decL, runeLen2 _ (by omega) (by omega), if_neg (by decide), if_neg (by simp; omega)]
    simp only [show ((2 : Int) - 1).toNat = 1 from rfl, List.take_succ_cons, List.take_zero]
    rw [tail1 _ _ _ (c % 64) e1 (by omega) (by omega), runeTail, e0, show leadN 2 = 192 from rfl, show (192 + c / 64 - 192) * 64 + c % 64 = c from by omega, hp, show sizeN c = 2 from by unfold sizeN; rw [if_neg h1, if_pos h2]]
    rfl
  rw [if_neg h2, if_neg h2]
  by_cases h3 : c < 65536
  · rw [if_pos h3, if_pos h3]
    have e0 := byteI_nat (224 + c / 4096) (by omega) (by omega)
    have e1 := byteI_nat (128 + c / 64 % 64) (by omega) (by omega)
    have e2 := byteI_nat (128 + c % 64) (by omega) (by omega)
    show decL (byteI (224 + c / 4096) :: byteI (128 + c / 64 % 64) :: byteI (128 + c % 64) :: t) = _
    rw [decL, runeLen3 _ (by omega) (by omega), if_neg (by decide), if_neg (by simp; omega)]
    simp only [show ((3 : Int) - 1).toNat = 2 from rfl, List.take_succ_cons, List.take_zero]
    rw [tail1 _ _ _ (c / 64 % 64) e1 (by omega) (by omega), tail1 _ _ _ (c % 64) e2 (by omega) (by omega), runeTail, e0, show leadN 3 = 224 from rfl, show ((224 + c / 4096 - 224) * 64 + c / 64 % 64) * 64 + c % 64 = c from by omega, hp, show sizeN c = 3 from by unfold sizeN; rw [if_neg h1, if_neg h2, if_pos h3]]
    rfl
  rw [if_neg h3, if_neg h3]
  have e0 := byteI_nat (240 + c / 262144) (by omega) (by omega)
  have e1 := byteI_nat (128 + c / 4096 % 64) (by omega) (by omega)
  have e2 := byteI_nat (128 + c / 64 % 64) (by omega) (by omega)
  have e3 := byteI_nat (128 + c % 64) (by omega) (by omega)
  show decL (byteI (240 + c / 262144) :: byteI (128 + c / 4096 % 64) :: byteI (128 + c / 64 % 64) :: byteI (128 + c % 64) :: t) = _
  rw [decL, runeLen4 _ (by omega) (by omega), if_neg (by decide), if_neg (by simp; omega)]
  simp only [show ((4 : Int) - 1).toNat = 3 from rfl, List.take_succ_cons, List.take_zero]
  rw [tail1 _ _ _ (c / 4096 % 64) e1 (by omega) (by omega), tail1 _ _ _ (c / 64 % 64) e2 (by omega) (by omega), tail1 _ _ _ (c % 64) e3 (by omega) (by omega), runeTail, e0, show leadN 4 = 240 from rfl, show (((240 + c / 262144 - 240) * 64 + c / 4096 % 64) * 64 + c / 64 % 64) * 64 + c % 64 = c from by omega, hp, show sizeN c = 4 from by unfold sizeN; rw [if_neg h1, if_neg h2, if_neg h3]]
  rfl

theorem tail_neg (l : List UInt8) : runeTail (-1) l = -1 ∨ runeTail (-1) l < -1 := by
  have : ∀ (l : List UInt8) (c : Int), c < 0 → runeTail c l < 0 := by
    intro l
    induction l with
    | nil => intro c h; exact h
    | cons x t ih =>
      intro c h
      rw [runeTail]
      split
      · exact ih _ (by omega)
      · decide
  have := this l (-1) (by decide)
  omega
theorem tail_good (code : Int) (x : UInt8) (t : List UInt8) (h : pointB (runeTail code (x :: t)) = true) : ∃ v : Int, (x.toNat : Int) = 128 + v ∧ 0 ≤ v ∧ v < 64 ∧ runeTail code (x :: t) = runeTail (code * 64 + v) t := by
  rw [runeTail] at h
  split at h
  · rename_i hx
    exact ⟨(x.toNat : Int) - 128, by omega, by omega, by omega, tail1 _ _ _ _ (by omega) (by omega) (by omega)⟩
  · exact absurd h (by decide)

/-- what is read is what was written -/
theorem enc_dec (l : List UInt8) (h : ¬ (decL l).2 = 0) : pointB (decL l).1 = true ∧ (decL l).2 = sizeN (decL l).1 ∧ ∃ t, l = encL (decL l).1 ++ t := by
  match l, h with
  | [], h => exact absurd rfl h
  | a :: t, h =>
    have hal := a.toNat_lt
    rw [decL] at h ⊢
    by_cases h0 : runeLen a.toNat = 0
    · rw [if_pos h0] at h; exact absurd rfl h
    rw [if_neg h0] at h ⊢
    by_cases h1 : (t.length : Int) + 1 < runeLen a.toNat
    · rw [if_pos h1] at h; exact absurd rfl h
    rw [if_neg h1] at h ⊢
    simp only at h ⊢
    obtain ⟨c, hc⟩ : ∃ c, runeTail ((a.toNat : Int) - leadN (runeLen a.toNat)) (t.take (runeLen a.toNat - 1).toNat) = c := ⟨_, rfl⟩
    rw [hc] at h ⊢
    by_cases h2 : (pointB c && sizeN c == runeLen a.toNat) = true
    · rw [if_pos h2]
      simp only [Bool.and_eq_true, beq_iff_eq] at h2
      obtain ⟨hp, hs⟩ := h2
      refine ⟨hp, hs.symm, ?_⟩
      have hb := point_range hp
      have hsz := hs
      unfold sizeN at hsz
      unfold encL
      rw [if_pos hp]
      by_cases g4 : 240 ≤ a.toNat
      · have hl : runeLen a.toNat = 4 := by
          by_cases g5 : 248 ≤ a.toNat
          · exact absurd (by unfold runeLen; rw [if_pos g5]) h0
          · exact runeLen4 _ g4 (by omega)
        rw [hl] at hc h1 hsz
        match t, h1, hc with
        | x :: y :: z :: t', _, hc =>
          simp only [show ((4 : Int) - 1).toNat = 3 from rfl, List.take_succ_cons, List.take_zero, show leadN 4 = 240 from rfl] at hc
          obtain ⟨v1, a1, b1, c1, d1⟩ := tail_good _ _ _ (by rw [hc]; exact hp)
          rw [d1] at hc
          obtain ⟨v2, a2, b2, c2, d2⟩ := tail_good _ _ _ (by rw [hc]; exact hp)
          rw [d2] at hc
          obtain ⟨v3, a3, b3, c3, d3⟩ := tail_good _ _ _ (by rw [hc]; exact hp)
          rw [d3, runeTail] at hc
          have hge : ¬ c < 65536 ∧ ¬ c < 2048 ∧ ¬ c < 128 := by
            refine ⟨fun hh => ?_, fun hh => ?_, fun hh => ?_⟩
            all_goals
              revert hsz
              repeat' split
              all_goals omega
          rw [if_neg hge.2.2, if_neg hge.2.1, if_neg hge.1]
          refine ⟨t', ?_⟩
          rw [byteI_eq (240 + c / 262144) a (by omega), byteI_eq (128 + c / 4096 % 64) x (by omega), byteI_eq (128 + c / 64 % 64) y (by omega), byteI_eq (128 + c % 64) z (by omega)]
          rfl
        | [], h1, _ => simp at h1
        | [_], h1, _ => simp at h1
        | [_, _], h1, _ => simp at h1
      by_cases g3 : 224 ≤ a.toNat
      · have hl : runeLen a.toNat = 3 := runeLen3 _ g3 (by omega)
        rw [hl] at hc h1 hsz
        match t, h1, hc with
        | x :: y :: t', _, hc =>
          simp only [show ((3 : Int) - 1).toNat = 2 from rfl, List.take_succ_cons, List.take_zero, show leadN 3 = 224 from rfl] at hc
          obtain ⟨v1, a1, b1, c1, d1⟩ := tail_good _ _ _ (by rw [hc]; exact hp)
          rw [d1] at hc
          obtain ⟨v2, a2, b2, c2, d2⟩ := tail_good _ _ _ (by rw [hc]; exact hp)
          rw [d2, runeTail] at hc
          have hge : c < 65536 ∧ ¬ c < 2048 ∧ ¬ c < 128 := by
            refine ⟨?_, fun hh => ?_, fun hh => ?_⟩
            · omega
            all_goals
              revert hsz
              repeat' split
              all_goals omega
          rw [if_neg hge.2.2, if_neg hge.2.1, if_pos hge.1]
          refine ⟨t', ?_⟩
          rw [byteI_eq (224 + c / 4096) a (by omega), byteI_eq (128 + c / 64 % 64) x (by omega), byteI_eq (128 + c % 64) y (by omega)]
          rfl
        | [], h1, _ => simp at h1
        | [_], h1, _ => simp at h1
      by_cases g2 : 192 ≤ a.toNat
      · have hl : runeLen a.toNat = 2 := runeLen2 _ g2 (by omega)
        rw [hl] at hc h1 hsz
        match t, h1, hc with
        | x :: t', _, hc =>
          simp only [show ((2 : Int) - 1).toNat = 1 from rfl, List.take_succ_cons, List.take_zero, show leadN 2 = 192 from rfl] at hc
          obtain ⟨v1, a1, b1, c1, d1⟩ := tail_good _ _ _ (by rw [hc]; exact hp)
          rw [d1, runeTail] at hc
          have hge : c < 2048 ∧ ¬ c < 128 := by
            refine ⟨?_, fun hh => ?_⟩
            · omega
            · revert hsz
              repeat' split
              all_goals omega
          rw [if_neg hge.2, if_pos hge.1]
          refine ⟨t', ?_⟩
          rw [byteI_eq (192 + c / 64) a (by omega), byteI_eq (128 + c % 64) x (by omega)]
          rfl
        | [], h1, _ => simp at h1
      by_cases g1 : 128 ≤ a.toNat
      · exact absurd (by unfold runeLen; rw [if_neg (by omega), if_neg (by omega), if_neg (by omega), if_neg (by omega), if_pos g1]) h0
      · have hl : runeLen a.toNat = 1 := runeLen1 _ (by omega)
        rw [hl] at hc
        simp only [show ((1 : Int) - 1).toNat = 0 from rfl, List.take_zero, show leadN 1 = 0 from rfl, runeTail] at hc
        rw [if_pos (by omega)]
        exact ⟨t, by rw [byteI_eq c a (by omega)]; rfl⟩
    · rw [if_neg h2] at h
      exact absurd rfl h

theorem dec_none (l : List UInt8) (h : (decL l).2 = 0) : decL l = (-1, 0) := by
  cases l with
  | nil => rfl
  | cons a t =>
    rw [decL] at h ⊢
    split at h
    · rename_i h0; rw [if_pos h0]
    · rename_i h0
      rw [if_neg h0]
      split at h
      · rename_i h1; rw [if_pos h1]
      · rename_i h1
        rw [if_neg h1]
        simp only at h ⊢
        split at h
        · exact absurd h h0
        · rename_i h2; rw [if_neg h2]
theorem dec_range (l : List UInt8) : 0 ≤ (decL l).2 ∧ (decL l).2 ≤ 4 ∧ (decL l).2 ≤ l.length := by
  by_cases h : (decL l).2 = 0
  · rw [h]; omega
  · obtain ⟨hp, hs, t, ht⟩ := enc_dec l h
    have := sizeN_range (decL l).1
    have h2 := enc_len _ hp
    have h3 := congrArg List.length ht
    rw [List.length_append] at h3
    omega

theorem validF_cons (n : Nat) (a : UInt8) (t : List UInt8) : validF (n + 1) (a :: t) = (decide (0 < (decL (a :: t)).2) && allowedB (decL (a :: t)).1 && validF n ((a :: t).drop (decL (a :: t)).2.toNat)) := rfl
theorem validF_more (n : Nat) : ∀ (l : List UInt8) (m : Nat), l.length ≤ n → n ≤ m → validF m l = validF n l := by
  induction n with
  | zero =>
    intro l m h hm
    have : l = [] := List.eq_nil_of_length_eq_zero (by omega)
    subst this
    cases m <;> rfl
  | succ n ih =>
    intro l m h hm
    obtain ⟨m, rfl⟩ : ∃ j, m = j + 1 := ⟨m - 1, by omega⟩
    cases l with
    | nil => rfl
    | cons a t =>
      rw [validF_cons, validF_cons]
      by_cases h0 : 0 < (decL (a :: t)).2
      · have hl : ((a :: t).drop (decL (a :: t)).2.toNat).length ≤ n := by rw [List.length_drop]; simp at *; omega
        rw [ih _ m hl (by omega), ih _ n hl (by omega)]
      · rw [show decide (0 < (decL (a :: t)).2) = false from by simpa using h0]; rfl
theorem valid_cons (a : UInt8) (t : List UInt8) : validL (a :: t) = (decide (0 < (decL (a :: t)).2) && allowedB (decL (a :: t)).1 && validL ((a :: t).drop (decL (a :: t)).2.toNat)) := by
  unfold validL
  rw [List.length_cons, validF_cons]
  by_cases h0 : 0 < (decL (a :: t)).2
  · have hl : ((a :: t).drop (decL (a :: t)).2.toNat).length ≤ t.length := by rw [List.length_drop]; simp; omega
    rw [validF_more _ _ _ (Nat.le_refl _) hl]
  · rw [show decide (0 < (decL (a :: t)).2) = false from by simpa using h0]; rfl
/-- a character ahead of a text -/
theorem valid_enc (c : Int) (hp : pointB c = true) (t : List UInt8) : validL (encL c ++ t) = (allowedB c && validL t) := by
  have h := dec_enc c hp t
  have hs := sizeN_range c
  have hl := enc_len c hp
  cases he : encL c with
  | nil => rw [he] at hl; simp at hl; omega
  | cons a b =>
    rw [List.cons_append, valid_cons, ← List.cons_append, ← he, h]
    simp only
    rw [show decide (0 < sizeN c) = true from by simp; omega, Bool.true_and]
    congr 2
    rw [← hl, Int.toNat_natCast, List.drop_left]
/-- the texts that may be are rows of characters that may be -/
theorem valid_ind {P : List UInt8 → Prop} (h0 : P []) (h1 : ∀ c t, pointB c = true → allowedB c = true → validL t = true → P t → P (encL c ++ t)) (n : Nat) : ∀ l : List UInt8, l.length ≤ n → validL l = true → P l := by
  induction n with
  | zero =>
    intro l h _
    have : l = [] := List.eq_nil_of_length_eq_zero (by omega)
    rw [this]
    exact h0
  | succ n ih =>
    intro l h hv
    cases l with
    | nil => exact h0
    | cons a t =>
      have hv2 := hv
      rw [valid_cons] at hv2
      simp only [Bool.and_eq_true, decide_eq_true_eq] at hv2
      obtain ⟨hp, hs, u, hu⟩ := enc_dec (a :: t) (by omega)
      have hlen := enc_len _ hp
      have hu2 := congrArg List.length hu
      rw [List.length_append] at hu2
      rw [hu] at hv ⊢
      rw [valid_enc _ hp] at hv
      simp only [Bool.and_eq_true] at hv
      exact h1 _ _ hp hv.1 hv.2 (ih u (by omega) hv.2)
theorem valid_append (a b : List UInt8) (ha : validL a = true) : validL (a ++ b) = validL b := by
  have : ∀ a : List UInt8, validL a = true → validL (a ++ b) = validL b := fun a h =>
    valid_ind (P := fun a => validL (a ++ b) = validL b) rfl (fun c t hp hc _ ih => by rw [List.append_assoc, valid_enc _ hp, hc, ih]; rfl) a.length a (Nat.le_refl _) h
  exact this a ha

end Go.Proofs.Ytekkaoenabjeiaa.P11
