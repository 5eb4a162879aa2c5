/- Plain law: the reference's Entity reads what chars.Entity reads. No program in sight. -/
import Derived.Test.YtekkaoenabjeiaaP11c
import Derived.Test.YtekkaoenabjeiaaRefE
set_option linter.unusedVariables false
set_option linter.unusedSimpArgs false
namespace Go.Proofs.Ytekkaoenabjeiaa.P11
open Go Go.Proofs.Ytekkaoenabjeiaa Go.Proofs.Ytekkaoenabjeiaa.RefE

theorem upTo_some {c : UInt8} {l b : List UInt8} (h : upTo c l = some b) : l = b ++ c :: l.drop (b.length + 1) ∧ c ∉ b := by
  induction l generalizing b with
  | nil => simp [upTo] at h
  | cons a t ih =>
    unfold upTo at h
    by_cases e : a = c
    · rw [if_pos e] at h
      obtain rfl := Option.some.inj h
      subst e
      simp
    · rw [if_neg e] at h
      cases hu : upTo c t with
      | none => rw [hu] at h; simp at h
      | some x =>
        rw [hu] at h
        simp at h
        subst h
        obtain ⟨h1, h2⟩ := ih hu
        refine ⟨?_, ?_⟩
        · simp only [List.length_cons, List.drop_succ_cons, List.cons_append]
          rw [← h1]
        · simp only [List.mem_cons, not_or]
          exact ⟨fun e' => e e'.symm, h2⟩
theorem upTo_none {c : UInt8} {l : List UInt8} (h : upTo c l = none) : c ∉ l := by
  induction l with
  | nil => simp
  | cons a t ih =>
    unfold upTo at h
    by_cases e : a = c
    · rw [if_pos e] at h; cases h
    · rw [if_neg e] at h
      cases hu : upTo c t with
      | none => simp only [List.mem_cons, not_or]; exact ⟨fun e' => e e'.symm, ih hu⟩
      | some x => rw [hu] at h; simp at h
theorem pre_upTo {c : UInt8} {l b p : List UInt8} (h : upTo c l = some b) (hp : c ∉ p) : p.isPrefixOf l = p.isPrefixOf b := by
  obtain ⟨h1, h2⟩ := upTo_some h
  rw [Bool.eq_iff_iff, List.isPrefixOf_iff_prefix, List.isPrefixOf_iff_prefix]
  constructor
  · intro hpl
    rw [h1] at hpl
    by_cases hlen : p.length ≤ b.length
    · exact List.prefix_of_prefix_length_le hpl (List.prefix_append _ _) hlen
    · exfalso
      apply hp
      obtain ⟨t, ht⟩ := hpl
      have h3 : p[b.length]? = some c := by
        have := congrArg (fun z => z[b.length]?) ht
        rw [List.getElem?_append_left (by omega), List.getElem?_append_right (Nat.le_refl _), Nat.sub_self] at this
        simpa using this
      exact List.mem_of_getElem? h3
  · intro hb
    rw [h1]
    exact hb.trans (List.prefix_append _ _)
theorem pre_upTo_end {c : UInt8} {l b p : List UInt8} (h : upTo c l = some b) (hp : c ∉ p) : (p ++ [c]).isPrefixOf l = decide (b = p) := by
  obtain ⟨h1, h2⟩ := upTo_some h
  rw [Bool.eq_iff_iff, List.isPrefixOf_iff_prefix, decide_eq_true_eq]
  constructor
  · intro hpl
    have hp1 : p <+: b := by
      have := pre_upTo h hp
      rw [Bool.eq_iff_iff, List.isPrefixOf_iff_prefix, List.isPrefixOf_iff_prefix] at this
      exact this.1 ((List.prefix_append _ _).trans hpl)
    by_cases hlen : p.length = b.length
    · exact (hp1.eq_of_length hlen).symm
    · exfalso
      apply h2
      have hlt : p.length < b.length := by have := hp1.length_le; omega
      obtain ⟨t, ht⟩ := hpl
      have h3 : b[p.length]? = some c := by
        rw [h1] at ht
        have := congrArg (fun z => z[p.length]?) ht
        rw [List.getElem?_append_left (by simp), List.getElem?_append_right (Nat.le_refl _), Nat.sub_self, List.getElem?_append_left hlt] at this
        simpa using this.symm
      exact List.mem_of_getElem? h3
  · rintro rfl
    rw [h1]
    exact ⟨l.drop (b.length + 1), by simp⟩
theorem pre_none {c : UInt8} {l p : List UInt8} (h : upTo c l = none) : (p ++ [c]).isPrefixOf l = false := by
  rw [Bool.eq_false_iff]
  intro hp
  rw [List.isPrefixOf_iff_prefix] at hp
  exact upTo_none h (hp.subset (by simp))
theorem upTo_drop {c : UInt8} {l b : List UInt8} (n : Nat) (h : upTo c l = some b) (hn : n ≤ b.length) : upTo c (l.drop n) = some (b.drop n) := by
  induction n generalizing l b with
  | zero => simpa using h
  | succ n ih =>
    cases l with
    | nil => simp [upTo] at h
    | cons a t =>
      unfold upTo at h
      by_cases e : a = c
      · rw [if_pos e] at h
        obtain rfl := Option.some.inj h
        simp at hn
      · rw [if_neg e] at h
        cases hu : upTo c t with
        | none => rw [hu] at h; simp at h
        | some x =>
          rw [hu] at h
          simp at h
          subst h
          exact ih hu (by simp at hn; omega)
theorem upTo_drop_none {c : UInt8} {l : List UInt8} (n : Nat) (h : upTo c l = none) : upTo c (l.drop n) = none := by
  cases hu : upTo c (l.drop n) with
  | none => rfl
  | some b =>
    exfalso
    apply upTo_none h
    have := (upTo_some hu).1
    have hm : c ∈ l.drop n := by rw [this]; simp
    exact List.mem_of_mem_drop hm

theorem d99_digit (c : UInt8) (base : Int) (hb : 0 < base ∧ base ≤ 16) : (¬ d99 c.toNat ≥ base ↔ (0 ≤ digitV c ∧ digitV c < base)) ∧ (0 ≤ digitV c → d99 c.toNat = digitV c) := by
  have := c.toNat_lt
  unfold d99 digitV
  refine ⟨?_, ?_⟩
  · repeat' split
    all_goals omega
  · repeat' split
    all_goals omega
/-- what the reference's number tells, by what stands up to the semicolon -/
def numRes (base : Int) (j : Nat) (l : List UInt8) (n i : Int) : Int × Int := match upTo 59 l with
  | none => (0, 0)
  | some b => if 0 < i + (b.length : Int) ∧ b.length < j then (match digitsV base n b with | some m => (m, i + (b.length : Int)) | none => (0, 0)) else (0, 0)
theorem numGo_res (base : Int) (hb : 0 < base ∧ base ≤ 16) (j : Nat) : ∀ (l : List UInt8) (n i : Int), 0 ≤ i → numGo base j l n i = numRes base j l n i := by
  induction j with
  | zero =>
    intro l n i h
    unfold numRes
    rw [numGo]
    split
    · rfl
    · rw [if_neg (by omega)]
  | succ j ih =>
    intro l n i hi
    cases l with
    | nil => rfl
    | cons c t =>
      rw [numGo]
      obtain ⟨hd1, hd2⟩ := d99_digit c base hb
      by_cases h59 : c = 59
      · subst h59
        unfold numRes
        rw [show upTo 59 (59 :: t) = some [] from by unfold upTo; rw [if_pos rfl]]
        show (if (59 : UInt8) = 59 ∧ 0 < i then (n, i) else if d99 ((59 : UInt8).toNat : Int) ≥ base then (0, 0) else numGo base j t (n * base + d99 ((59 : UInt8).toNat : Int)) (i + 1)) = (if 0 < i + ((0 : Nat) : Int) ∧ 0 < j + 1 then (n, i + ((0 : Nat) : Int)) else (0, 0))
        have h99 : d99 ((59 : UInt8).toNat : Int) = 99 := rfl
        by_cases h0 : 0 < i
        · rw [if_pos ⟨rfl, h0⟩, if_pos ⟨by omega, by omega⟩]
          congr 1
          omega
        · rw [if_neg (show ¬ ((59 : UInt8) = 59 ∧ 0 < i) from fun h => h0 h.2), if_pos (show d99 ((59 : UInt8).toNat : Int) ≥ base by omega), if_neg (show ¬ (0 < i + ((0 : Nat) : Int) ∧ 0 < j + 1) by omega)]
      · rw [if_neg (fun h => h59 h.1)]
        have hu : upTo 59 (c :: t) = (upTo 59 t).map (c :: ·) := by rw [upTo, if_neg h59]
        by_cases hge : d99 c.toNat ≥ base
        · rw [if_pos hge]
          unfold numRes
          rw [hu]
          cases upTo 59 t with
          | none => rfl
          | some b =>
            simp only [Option.map_some, digitsV]
            rw [if_neg (fun h => (hd1.2 h) hge)]
            split <;> rfl
        · have hdv := hd1.1 hge
          rw [if_neg hge, ih t _ (i + 1) (by omega), hd2 hdv.1]
          unfold numRes
          rw [hu]
          cases upTo 59 t with
          | none => rfl
          | some b =>
            simp only [Option.map_some, digitsV, List.length_cons]
            rw [if_pos hdv]
            by_cases hc : 0 < i + 1 + (b.length : Int) ∧ b.length < j
            · rw [if_pos hc, if_pos ⟨by omega, by omega⟩]
              cases digitsV base (n * base + digitV c) b with
              | none => rfl
              | some m => simp only; congr 1; omega
            · rw [if_neg hc, if_neg (fun h => hc ⟨by omega, by omega⟩)]

theorem allowed_point {c : Int} (h : allowedB c = true) : pointB c = true := by
  unfold allowedB at h
  simp only [Bool.or_eq_true, Bool.and_eq_true, beq_iff_eq] at h
  rcases h with ((rfl | rfl) | rfl) | h
  · rfl
  · rfl
  · rfl
  · exact h.2

/-- a number at a mark, by what stands up to the semicolon -/
theorem num_good (l : List UInt8) (i base : Int) (hb : 0 < base ∧ base ≤ 16) (h0 : 0 ≤ i) (b : List UInt8) (hu : upTo 59 (l.drop i.toNat) = some b) :
    (if (decide (0 < (numS l i base).2) && allowedB (numS l i base).1) = true then (encL (numS l i base).1, (numS l i base).2) else ([], 0)) = if numdL base b = [] then ([], 0) else (numdL base b, (b.length : Int)) := by
  have hN : numS l i base = if 0 < 0 + (b.length : Int) ∧ b.length < 9 then (match digitsV base 0 b with | some m => (m, 0 + (b.length : Int)) | none => (0, 0)) else (0, 0) := by
    unfold numS
    rw [numGo_res base hb 9 _ 0 0 (by omega)]
    unfold numRes
    rw [hu]
  unfold numdL
  by_cases hc : 0 < 0 + (b.length : Int) ∧ b.length < 9
  · rw [if_pos hc] at hN
    rw [if_neg (show ¬ (b = [] ∨ 8 < b.length) from fun h => h.elim (fun e => by subst e; simp at hc) (fun h => by omega))]
    cases hd : digitsV base 0 b with
    | none =>
      rw [hd] at hN
      have hN' : numS l i base = (0, 0) := hN
      rw [hN']
      rfl
    | some m =>
      rw [hd] at hN
      have hN' : numS l i base = (m, (b.length : Int)) := hN.trans (by rw [Int.zero_add])
      rw [hN']
      simp only
      by_cases ha : allowedB m = true
      · have hne : ¬ encL m = [] := fun e => by
          have := (enc_nil m).1 e
          rw [allowed_point ha] at this
          cases this
        rw [if_pos (by rw [ha]; simp; omega), if_pos ha, if_neg hne]
      · have haf : allowedB m = false := by simpa using ha
        rw [haf]
        simp
  · rw [if_neg hc] at hN
    rw [hN, if_pos (show b = [] ∨ 8 < b.length from by
      by_cases hbe : b = []
      · exact .inl hbe
      · right
        have : 0 < b.length := List.length_pos_iff.2 hbe
        omega)]
    rfl
theorem num_bad (l : List UInt8) (i base : Int) (hb : 0 < base ∧ base ≤ 16) (hu : upTo 59 (l.drop i.toNat) = none) : numS l i base = (0, 0) := by
  unfold numS
  rw [numGo_res base hb 9 _ 0 0 (by omega)]
  unfold numRes
  rw [hu]

theorem refEnt_eq (l : List UInt8) (i : Int) : refEnt l i = entP l i := by
  unfold entP
  by_cases hin : 0 ≤ i ∧ i < (l.length : Int)
  · rw [if_pos hin]
    obtain ⟨n, rfl⟩ := Int.eq_ofNat_of_zero_le hin.1
    have hn : n < l.length := by omega
    rw [Int.toNat_natCast]
    have hbeg : ∀ t, begB l (n : Int) t = t.isPrefixOf (l.drop n) := by
      intro t
      unfold begB
      rw [show decide ((0 : Int) ≤ (n : Int) ∧ (n : Int) ≤ (l.length : Int)) = true from by simp; omega, Bool.true_and, Int.toNat_natCast]
    have hdrop : ∀ k : Nat, l.drop (((n : Int) + (k : Int)).toNat) = (l.drop n).drop k := by
      intro k
      rw [List.drop_drop]
      congr 1
    unfold refEnt
    obtain ⟨a, r, har⟩ : ∃ a r, l.drop n = a :: r := ⟨_, _, List.drop_eq_getElem_cons hn⟩
    have hr1 : ∀ k : Nat, l.drop (((n : Int) + ((k + 1 : Nat) : Int)).toNat) = r.drop k := by
      intro k
      rw [hdrop, har, List.drop_succ_cons]
    simp only [nameFrom, markFrom, hbeg, har, entNames, entMarks, List.getD_cons_zero, List.getD_cons_succ, entChars]
    by_cases ha : a = 38
    · subst ha
      have hcons : ∀ t : List UInt8, (38 :: t).isPrefixOf (38 :: r) = t.isPrefixOf r := by intro t; simp [List.isPrefixOf]
      simp only [hcons]
      have hent : entL (38 :: r) = match upTo 59 r with | some b => if bodyL b = [] then ([], 0) else (bodyL b, (b.length : Int) + 2) | none => ([], 0) := rfl
      rw [hent]
      have e1 : ([108, 116, 59] : List UInt8) = [108, 116] ++ [59] := rfl
      have e2 : ([103, 116, 59] : List UInt8) = [103, 116] ++ [59] := rfl
      have e3 : ([97, 109, 112, 59] : List UInt8) = [97, 109, 112] ++ [59] := rfl
      have e4 : ([113, 117, 111, 116, 59] : List UInt8) = [113, 117, 111, 116] ++ [59] := rfl
      have e5 : ([97, 112, 111, 115, 59] : List UInt8) = [97, 112, 111, 115] ++ [59] := rfl
      rw [e1, e2, e3, e4, e5]
      have hg0 : goodAt l (n : Int) 0 = (decide (0 < (numS l ((n : Int) + 3) 16).2) && allowedB (numS l ((n : Int) + 3) 16).1) := rfl
      have hg1 : goodAt l (n : Int) 1 = (decide (0 < (numS l ((n : Int) + 2) 10).2) && allowedB (numS l ((n : Int) + 2) 10).1) := rfl
      have hn0 : numAt l (n : Int) 0 = numS l ((n : Int) + 3) 16 := rfl
      have hn1 : numAt l (n : Int) 1 = numS l ((n : Int) + 2) 10 := rfl
      have hl3 : l.drop ((n : Int) + 3).toNat = r.drop 2 := hr1 2
      have hl2 : l.drop ((n : Int) + 2).toNat = r.drop 1 := hr1 1
      rw [hg0, hg1, hn0, hn1]
      cases hu : upTo 59 r with
      | none =>
        simp only [pre_none hu]
        rw [num_bad l _ 16 (by decide) (by rw [hl3]; exact upTo_drop_none 2 hu), num_bad l _ 10 (by decide) (by rw [hl2]; exact upTo_drop_none 1 hu)]
        simp
      | some b =>
        simp only [pre_upTo_end hu (show (59 : UInt8) ∉ [108, 116] by decide), pre_upTo_end hu (show (59 : UInt8) ∉ [103, 116] by decide), pre_upTo_end hu (show (59 : UInt8) ∉ [97, 109, 112] by decide), pre_upTo_end hu (show (59 : UInt8) ∉ [113, 117, 111, 116] by decide), pre_upTo_end hu (show (59 : UInt8) ∉ [97, 112, 111, 115] by decide), pre_upTo hu (show (59 : UInt8) ∉ [35, 120] by decide), pre_upTo hu (show (59 : UInt8) ∉ [35] by decide)]
        by_cases p1 : [35, 120].isPrefixOf b = true
        · obtain ⟨b', rfl⟩ := List.isPrefixOf_iff_prefix.1 p1
          have hbody : bodyL ([35, 120] ++ b') = numdL 16 b' := by unfold bodyL; rw [if_pos p1]; rfl
          rw [hbody]
          have hng := num_good l ((n : Int) + 3) 16 (by decide) (by omega) b' (by rw [hl3]; exact upTo_drop 2 hu (by simp))
          have hbad : numS l ((n : Int) + 2) 10 = (0, 0) := by
            unfold numS
            rw [hl2, numGo_res 10 (by decide) 9 _ 0 0 (by omega)]
            unfold numRes
            rw [upTo_drop 1 hu (by simp)]
            simp only
            split
            · rfl
            · rfl
          rw [hbad, p1]
          have p2 : [35].isPrefixOf ([35, 120] ++ b') = true := rfl
          rw [p2]
          simp only [Bool.true_and, show decide ((0 : Int) < 0) = false from rfl, Bool.false_and]
          have q1 : decide ([35, 120] ++ b' = ([108, 116] : List UInt8)) = false := by simp
          have q2 : decide ([35, 120] ++ b' = ([103, 116] : List UInt8)) = false := by simp
          have q3 : decide ([35, 120] ++ b' = ([97, 109, 112] : List UInt8)) = false := by simp
          have q4 : decide ([35, 120] ++ b' = ([113, 117, 111, 116] : List UInt8)) = false := by simp
          have q5 : decide ([35, 120] ++ b' = ([97, 112, 111, 115] : List UInt8)) = false := by simp
          rw [q1, q2, q3, q4, q5]
          simp only [if_neg (show ¬ (false = true) by decide)]
          by_cases hgood : (decide (0 < (numS l ((n : Int) + 3) 16).2) && allowedB (numS l ((n : Int) + 3) 16).1) = true
          · rw [if_pos hgood] at hng ⊢
            by_cases hnil : numdL 16 b' = []
            · rw [if_pos hnil] at hng
              simp only [Prod.mk.injEq] at hng
              rw [if_pos hnil]
              simp only [Bool.and_eq_true, decide_eq_true_eq] at hgood
              omega
            · rw [if_neg hnil] at hng ⊢
              simp only [Prod.mk.injEq] at hng
              rw [hng.1, hng.2]
              simp only [List.length_append, List.length_cons, List.length_nil]
              congr 1
              omega
          · rw [if_neg hgood] at hng ⊢
            by_cases hnil : numdL 16 b' = []
            · rw [if_pos hnil]
            · rw [if_neg hnil] at hng
              simp only [Prod.mk.injEq] at hng
              exact absurd hng.1.symm hnil
        · have p1f : [35, 120].isPrefixOf b = false := Bool.eq_false_iff.2 p1
          rw [p1f]
          simp only [Bool.false_and, if_neg (show ¬ (false = true) by decide)]
          by_cases p2 : [35].isPrefixOf b = true
          · obtain ⟨b', rfl⟩ := List.isPrefixOf_iff_prefix.1 p2
            have hbody : bodyL ([35] ++ b') = numdL 10 b' := by unfold bodyL; rw [if_neg p1, if_pos p2]; rfl
            rw [hbody, p2]
            have hng := num_good l ((n : Int) + 2) 10 (by decide) (by omega) b' (by rw [hl2]; exact upTo_drop 1 hu (by simp))
            have q1 : decide ([35] ++ b' = ([108, 116] : List UInt8)) = false := by simp
            have q2 : decide ([35] ++ b' = ([103, 116] : List UInt8)) = false := by simp
            have q3 : decide ([35] ++ b' = ([97, 109, 112] : List UInt8)) = false := by simp
            have q4 : decide ([35] ++ b' = ([113, 117, 111, 116] : List UInt8)) = false := by simp
            have q5 : decide ([35] ++ b' = ([97, 112, 111, 115] : List UInt8)) = false := by simp
            rw [q1, q2, q3, q4, q5]
            simp only [if_neg (show ¬ (false = true) by decide), Bool.true_and]
            by_cases hgood : (decide (0 < (numS l ((n : Int) + 2) 10).2) && allowedB (numS l ((n : Int) + 2) 10).1) = true
            · rw [if_pos hgood] at hng ⊢
              by_cases hnil : numdL 10 b' = []
              · rw [if_pos hnil] at hng
                simp only [Prod.mk.injEq] at hng
                rw [if_pos hnil]
                simp only [Bool.and_eq_true, decide_eq_true_eq] at hgood
                omega
              · rw [if_neg hnil] at hng ⊢
                simp only [Prod.mk.injEq] at hng
                rw [hng.1, hng.2]
                simp only [List.length_append, List.length_cons, List.length_nil]
                congr 1
                omega
            · rw [if_neg hgood] at hng ⊢
              by_cases hnil : numdL 10 b' = []
              · rw [if_pos hnil]
              · rw [if_neg hnil] at hng
                simp only [Prod.mk.injEq] at hng
                exact absurd hng.1.symm hnil
          · have p2f : [35].isPrefixOf b = false := Bool.eq_false_iff.2 p2
            rw [p2f]
            have hbody : bodyL b = namedL b := by unfold bodyL; rw [if_neg p1, if_neg p2]
            rw [hbody]
            unfold namedL
            simp only [Bool.false_and, if_neg (show ¬ (false = true) by decide), decide_eq_true_eq]
            by_cases g1 : b = [108, 116]
            · subst g1; rfl
            by_cases g2 : b = [103, 116]
            · subst g2; rfl
            by_cases g3 : b = [97, 109, 112]
            · subst g3; rfl
            by_cases g4 : b = [113, 117, 111, 116]
            · subst g4; rfl
            by_cases g5 : b = [97, 112, 111, 115]
            · subst g5; rfl
            simp only [if_neg g1, if_neg g2, if_neg g3, if_neg g4, if_neg g5, if_true]
    · have hcons : ∀ t : List UInt8, (38 :: t).isPrefixOf (a :: r) = false := by
        intro t
        simp only [List.isPrefixOf, Bool.and_eq_false_iff]
        left
        simpa using fun e : 38 = a => ha e.symm
      simp only [hcons, Bool.false_and, if_neg (show ¬ (false = true) by decide)]
      show _ = (if a = 38 then _ else _)
      rw [if_neg ha]
  · rw [if_neg hin]
    have hbeg : ∀ t : List UInt8, t ≠ [] → begB l i t = false := by
      intro t ht
      rw [Bool.eq_false_iff]
      intro h
      have := begB_in h
      have h2 : 0 < t.length := List.length_pos_iff.2 ht
      omega
    unfold refEnt
    simp only [nameFrom, markFrom, entNames, entMarks, List.getD_cons_zero, List.getD_cons_succ]
    rw [hbeg _ (by simp), hbeg _ (by simp), hbeg _ (by simp), hbeg _ (by simp), hbeg _ (by simp), hbeg _ (by simp), hbeg _ (by simp)]
    simp

end Go.Proofs.Ytekkaoenabjeiaa.P11
