/- Parts of the proof of canonParsed_holds, kept and merged by a program of mine (wip/tools/slim.py) out of my texts: P14v -/
import Derived.Test.YtlhhhlimjajnlaaGreatSPd36
import Derived.Test.YtlhhhlimjajnlaaGreatSPd35
import Derived.Test.YtlhhhlimjajnlaaGreatSPd11
section
set_option linter.unusedVariables false
set_option linter.unusedSimpArgs false
namespace Go.Proofs.YtlhhhlimjajnlaaGreat.P14
open Go.RowKit Go.Proofs.YtlhhhlimjajnlaaGreat Go.Proofs.YtlhhhlimjajnlaaGreat.Q Go.Proofs.YtlhhhlimjajnlaaGreatW.PrintWords Go.Proofs.YtlhhhlimjajnlaaGreat.X Go.Proofs.YtlhhhlimjajnlaaGreat.Ck Go.Proofs.YtlhhhlimjajnlaaGreat.P11 Go.Proofs.YtlhhhlimjajnlaaGreat.P12 Go.Proofs.YtlhhhlimjajnlaaGreat.R13
theorem valid_cut (l : List UInt8) (h : validL l = true) : ∀ (u : List UInt8) (c : UInt8) (v : List UInt8), l = u ++ c :: v → c.toNat < 128 → validL u = true ∧ validL (c :: v) = true := by
 refine valid_ind (P := fun l => ∀ (u : List UInt8) (c : UInt8) (v : List UInt8), l = u ++ c :: v → c.toNat < 128 → validL u = true ∧ validL (c :: v) = true) ?_ ?_ l.length l (Nat.le_refl _) h
 ·intro u c v e; exact absurd (congrArg List.length e) (by simp)
 ·intro k t hp ha ht ih u c v e hc
  rcases List.append_eq_append_iff.1 e with ⟨w, e1, e2⟩ | ⟨w, e1, e2⟩
  ·obtain ⟨i1, i2⟩ := ih w c v e2 hc
   exact ⟨by rw [e1, valid_enc k hp, ha, i1]; rfl, i2⟩
  ·cases w with
   | nil =>
    rw [List.append_nil] at e1
    rw [List.nil_append] at e2
    refine ⟨?_, by rw [e2]; exact ht⟩
    rw [← e1, show encL k = encL k ++ [] from by simp, valid_enc k hp, ha]; rfl
   | cons x w =>
    injection e2 with e3 e4
    subst e3
    cases u with
    | nil =>
     refine ⟨rfl, ?_⟩
     rw [e4, show c :: w.append t = encL k ++ t from by rw [e1]; rfl, valid_enc k hp, ha, ht]; rfl
    | cons b u =>
     exfalso
     by_cases hk : 128 ≤ k
     ·have := enc_high k hp hk c (by rw [e1]; simp)
      omega
     ·have h1 : (encL k).length = 1 := by
       unfold encL
       rw [if_pos hp, if_pos (by omega)]; rfl
      rw [e1] at h1
      simp at h1
theorem valid_tail {c : UInt8} {v : List UInt8} (h : validL (c :: v) = true) (hc : c.toNat < 128) : validL v = true := by
 obtain ⟨h3, h4⟩ := enc_low c hc
 have := valid_enc (c.toNat : Int) h3 v
 rw [h4] at this
 have h' : validL ([c] ++ v) = true := h
 rw [this, Bool.and_eq_true] at h'
 exact h'.2
theorem valid_head (l : List UInt8) (h : validL l = true) : l = [] ∨ ∃ k u, pointB k = true ∧ allowedB k = true ∧ validL u = true ∧ l = encL k ++ u :=
 valid_ind (P := fun l => l = [] ∨ ∃ k u, pointB k = true ∧ allowedB k = true ∧ validL u = true ∧ l = encL k ++ u) (.inl rfl) (fun k u a b c _ => .inr ⟨k, u, a, b, c, rfl⟩) l.length l (Nat.le_refl _) h
theorem body_valid (b : List UInt8) : validL (bodyL b) = true := by
 have hn : ∀ base l, validL (numdL base l) = true := by
  intro base l
  unfold numdL
  split
  ·rfl
  ·split
   ·split
    ·rename_i n _ ha
     have hp : pointB n = true := by
      unfold allowedB at ha
      unfold pointB at ha ⊢
      simp only [Bool.or_eq_true, beq_iff_eq, Bool.and_eq_true, decide_eq_true_eq, Bool.not_eq_true', beq_eq_false_iff_ne, ne_eq] at ha ⊢
      omega
     rw [show encL n = encL n ++ [] from by simp, valid_enc n hp, ha]; rfl
    ·rfl
   ·rfl
 unfold bodyL
 split
 ·exact hn _ _
 ·split
  ·exact hn _ _
  ·unfold namedL
   repeat' split
   all_goals decide
theorem upTo_app : ∀ (l : List UInt8) (c : UInt8) (b : List UInt8), upTo c l = some b → ∃ r, l = b ++ c :: r
 | [], c, b, h => by cases h
 | a :: t, c, b, h => by
  unfold upTo at h
  split at h
  ·rename_i e
   obtain rfl := Option.some.inj h
   exact ⟨t, by rw [e]; rfl⟩
  ·cases hu : upTo c t with
   | none => rw [hu] at h; cases h
   | some b' =>
    rw [hu] at h
    obtain rfl := Option.some.inj h
    obtain ⟨r, hr⟩ := upTo_app t c b' hu
    exact ⟨r, by rw [hr]; rfl⟩
theorem enc_no38 {k : Int} (hp : pointB k = true) (h : ¬ k = 38) : ∀ c, c ∈ encL k → ¬ c = 38 := by
 intro c hc e
 subst e
 by_cases hk : 128 ≤ k
 ·have := enc_high k hp hk _ hc
  exact absurd this (by decide)
 ·unfold encL at hc
  rw [if_pos hp, if_pos (by omega), List.mem_singleton] at hc
  have h0 := (point_range hp)
  have := byteI_nat k (by omega) (by omega)
  rw [← hc] at this
  have : (38 : Int) = k := this
  exact h this.symm
theorem dec_valid : ∀ (n : Nat) (l v : List UInt8), l.length ≤ n → validL l = true → dec l = some v → validL v = true
 | 0, l, v, hn, hl, h => by
  have : l = [] := List.eq_nil_of_length_eq_zero (by omega)
  subst this
  obtain rfl := Option.some.inj h
  rfl
 | n + 1, l, v, hn, hl, h => by
  rcases valid_head l hl with rfl | ⟨k, u, hp, ha, hu, rfl⟩
  ·obtain rfl := Option.some.inj h; rfl
  by_cases hk : k = 38
  ·have e38 : encL k = [38] := by rw [hk]; decide
   rw [e38] at h hl hn
   have h : dec (38 :: u) = some v := h
   rw [dec_amp] at h
   split at h
   ·cases h
   rename_i he
   rw [entL_at, if_pos rfl] at h he
   cases hup : upTo 59 u with
   | none => rw [hup] at he; exact absurd rfl he
   | some b =>
    rw [hup] at h he
    simp only at h he
    by_cases hb : bodyL b = []
    ·rw [if_pos hb] at he; exact absurd rfl he
    ·rw [if_neg hb] at h
     simp only at h
     obtain ⟨r, hr⟩ := upTo_app u 59 b hup
     have hd : (38 :: u).drop ((b.length : Int) + 2).toNat = r := by
      rw [hr, show ((b.length : Int) + 2).toNat = b.length + 2 from by omega]
      rw [show (38 : UInt8) :: (b ++ 59 :: r) = (38 :: b ++ [59]) ++ r from by simp]
      rw [List.drop_left' (by simp)]
     rw [hd] at h
     cases hdr : dec r with
     | none => rw [hdr] at h; cases h
     | some w =>
      rw [hdr] at h
      obtain rfl := Option.some.inj h
      have hvr : validL r = true := by
       have := (valid_cut ([38] ++ u) hl (38 :: b) 59 r (by rw [hr]; simp) (by decide)).2
       exact valid_tail this (by decide)
      rw [valid_append _ _ (body_valid b)]
      refine dec_valid n r w ?_ hvr hdr
      rw [hr] at hn
      simp only [List.length_append, List.length_cons, List.length_nil] at hn
      omega
  ·rw [dec_plain _ _ (enc_no38 hp hk)] at h
   cases hdu : dec u with
   | none => rw [hdu] at h; cases h
   | some w =>
    rw [hdu] at h
    obtain rfl := Option.some.inj h
    rw [valid_enc k hp, ha, Bool.true_and]
    refine dec_valid n u w ?_ hu hdu
    have := enc_len k hp
    rw [List.length_append] at hn
    have hz : 1 ≤ (encL k).length := by
     unfold encL
     rw [if_pos hp]
     repeat' split
     all_goals simp
    omega
def ValT (l : List Tok) : Prop := ∀ t, t ∈ l → t.f0 = 2 ∨ t.f0 = 6 → validL t.f4.data.toList = true
theorem valT_app {l r : List Tok} (h1 : ValT l) (h2 : ValT r) : ValT (l ++ r) := fun t ht => by
 rcases List.mem_append.1 ht with h | h
 ·exact h1 t h
 ·exact h2 t h
theorem valT_no {t : Tok} (h : ¬ (t.f0 = 2 ∨ t.f0 = 6)) : ValT [t] := fun u hu e => by rw [List.mem_singleton.1 hu] at e; exact absurd e h
theorem valT_one {t : Tok} (h : validL t.f4.data.toList = true) : ValT [t] := fun u hu _ => by rw [List.mem_singleton.1 hu]; exact h
theorem vd_at {l : List UInt8} {a q : Int} (h : validL (l.drop a.toNat) = true) (h0 : 0 ≤ a) (haq : a ≤ q) {c : UInt8} {r : List UInt8} (hq : l.drop q.toNat = c :: r) (hc : c.toNat < 128) : validL (l.drop q.toNat) = true ∧ validL (l.drop (q + 1).toNat) = true := by
 have hsp : l.drop a.toNat = (l.drop a.toNat).take (q.toNat - a.toNat) ++ c :: r := by
  have : (l.drop a.toNat).drop (q.toNat - a.toNat) = c :: r := by rw [List.drop_drop, ← hq]; congr 1; omega
  rw [← this, List.take_append_drop]
 have h1 := (valid_cut _ h _ c r hsp hc).2
 refine ⟨by rw [hq]; exact h1, ?_⟩
 have : l.drop (q + 1).toNat = r := by
  have : l.drop (q + 1).toNat = (l.drop q.toNat).drop 1 := by rw [List.drop_drop]; congr 1; omega
  rw [this, hq]; rfl
 rw [this]
 exact valid_tail h1 hc
theorem stands_app' {d : ByteArray} {i : Int} {s : List UInt8} (h : standsB d i ⟨s.toArray⟩ = true) : ∃ r, d.data.toList.drop i.toNat = s ++ r := by
 unfold standsB Lib.hasPrefix at h
 obtain ⟨t, ht⟩ := List.isPrefixOf_iff_prefix.1 h
 exact ⟨t, ht.symm⟩
theorem cut_yes {l s : List UInt8} (h : (Lib.cut l s).2.2 = true) : ∃ r, l = (Lib.cut l s).1 ++ (s ++ r) := by
 unfold Lib.cut at h ⊢
 split at h
 ·rename_i hi
  rw [if_pos hi]
  rcases Lib.index_spec l s with ⟨e, -⟩ | ⟨i, e, hil, ho, -⟩
  ·omega
  ·unfold Lib.occAt at ho
   obtain ⟨t, ht⟩ := List.isPrefixOf_iff_prefix.1 ho
   refine ⟨t, ?_⟩
   show l = l.take (Lib.index l s).toNat ++ (s ++ t)
   rw [e, Int.toNat_natCast, ht, List.take_append_drop]
 ·cases h
theorem cut_no {l s : List UInt8} (h : (Lib.cut l s).2.2 = false) : (Lib.cut l s).1 = l := by
 unfold Lib.cut at h ⊢
 split at h
 ·cases h
 ·rename_i hi
  rw [if_neg hi]
section
variable {d : ByteArray} {a0 : Int}
theorem attr_val (h : validL (d.data.toList.drop a0.toNat) = true) (h0 : 0 ≤ a0) (a : Int) (ha : a0 ≤ a) (new : List Tok) (a' : Int) (e : attrP d a = some (new, a')) : ValT new ∧ a ≤ a' := by
 have hs := skip_ge d.data.toList a
 have hs2 := name_ge d.data.toList (skipP d.data.toList a)
 have hs3 := skip_ge d.data.toList (nameEndP d.data.toList (skipP d.data.toList a))
 have hs4 := skip_ge d.data.toList (skipP d.data.toList (nameEndP d.data.toList (skipP d.data.toList a)) + 1)
 unfold attrP at e
 obtain ⟨O, hO⟩ : ∃ O, skipP d.data.toList (skipP d.data.toList (nameEndP d.data.toList (skipP d.data.toList a)) + 1) = O := ⟨_, rfl⟩
 simp only [hO] at e
 rw [hO] at hs4
 split at e
 ·cases e
 split at e
 ·cases e
 split at e
 ·cases e
 split at e
 ·cases e
 rename_i hq
 split at e
 ·cases e
 rename_i hc
 split at e
 ·cases e
 split at e
 case h_2 => cases e
 rename_i v hv
 injection e with e; injection e with e1 e2
 have hcut : (Lib.cut (d.data.toList.drop (O + 1).toNat) (partB d O (O + 1)).data.toList).2.2 = true := by simpa using hc
 obtain ⟨r, hr⟩ := cut_yes hcut
 have hqq : ∃ q t, d.data.toList.drop O.toNat = q :: t ∧ q.toNat < 128 := by
  cases s1 : standsB d O ⟨#[34]⟩ with
  | true =>
   obtain ⟨t, ht⟩ := stands_app' (s := [34]) s1
   exact ⟨34, t, ht, by decide⟩
  | false =>
   cases s2 : standsB d O ⟨#[39]⟩ with
   | true =>
    obtain ⟨t, ht⟩ := stands_app' (s := [39]) s2
    exact ⟨39, t, ht, by decide⟩
   | false => exact absurd ⟨s1, s2⟩ hq
 obtain ⟨q, t, hqt, hq128⟩ := hqq
 have hpart : (partB d O (O + 1)).data.toList = [q] := by rw [part_at d O (O + 1) [q] t (by omega) rfl hqt]
 rw [hpart] at hr hv
 have hv1 := (vd_at h h0 (show a0 ≤ O by omega) hqt hq128).2
 have hw := (valid_cut _ hv1 _ q r hr hq128).1
 refine ⟨?_, by rw [← e2]; omega⟩
 rw [← e1]
 exact valT_one (dec_valid _ _ v (Nat.le_refl _) hw hv)
theorem attrs_val (h : validL (d.data.toList.drop a0.toNat) = true) (h0 : 0 ≤ a0) : ∀ (n : Nat) (a : Int) (acc r : List Tok) (a' : Int), a0 ≤ a → ValT acc → attrsF d n a acc = some (r, a') → ValT r ∧ validL (d.data.toList.drop a'.toNat) = true
 | 0, a, acc, r, a', _, _, e => by cases e
 | n + 1, a, acc, r, a', ha, hacc, e => by
  have hs := skip_ge d.data.toList a
  unfold attrsF at e
  split at e
  ·rename_i s1
   injection e with e; injection e with e1 e2
   obtain ⟨t, ht⟩ := stands_app' (s := [62]) s1
   rw [← e1, ← e2]
   exact ⟨valT_app hacc (valT_no (by show ¬ ((3 : Int) = 2 ∨ (3 : Int) = 6); omega)), (vd_at h h0 (show a0 ≤ _ by omega) ht (by decide)).2⟩
  split at e
  ·rename_i s1
   injection e with e; injection e with e1 e2
   obtain ⟨t, ht⟩ := stands_app' (s := [47, 62]) s1
   rw [← e1, ← e2]
   have h2 : d.data.toList.drop (skipP d.data.toList a + 1).toNat = 62 :: t := by
    have : d.data.toList.drop (skipP d.data.toList a + 1).toNat = (d.data.toList.drop (skipP d.data.toList a).toNat).drop 1 := by rw [List.drop_drop]; congr 1; omega
    rw [this, ht]; rfl
   refine ⟨valT_app hacc (valT_no (by show ¬ ((4 : Int) = 2 ∨ (4 : Int) = 6); omega)), ?_⟩
   have := (vd_at h h0 (show a0 ≤ skipP d.data.toList a + 1 by omega) h2 (by decide)).2
   rw [show skipP d.data.toList a + 1 + 1 = skipP d.data.toList a + 2 from by omega] at this
   exact this
  cases hA : attrP d a with
  | none => rw [hA] at e; cases e
  | some v =>
   obtain ⟨new, p⟩ := v
   rw [hA] at e
   obtain ⟨v1, v2⟩ := attr_val h h0 a ha new p hA
   exact attrs_val h h0 n p (acc ++ new) r a' (by omega) (valT_app hacc v1) e
theorem step_val (h : validL (d.data.toList.drop a0.toNat) = true) (h0 : 0 ≤ a0) (new : List Tok) (a' : Int) (e : stepP d a0 = some (new, a')) : ValT new ∧ validL (d.data.toList.drop a'.toNat) = true := by
 unfold stepP at e
 split at e
 ·unfold commentP at e
  simp only at e
  split at e
  ·cases e
  rename_i hi
  split at e
  ·rename_i hp
   injection e with e; injection e with e1 e2
   obtain ⟨t, ht⟩ := List.isPrefixOf_iff_prefix.1 hp
   obtain ⟨i, hii⟩ : ∃ i, Lib.index (d.data.toList.drop (a0.toNat + 4)) [45, 45] = i := ⟨_, rfl⟩
   rw [hii] at hi ht e2
   have h2 : d.data.toList.drop (a0 + 4 + i + 2).toNat = 62 :: t := by
    have : d.data.toList.drop (a0 + 4 + i + 2).toNat = ((d.data.toList.drop (a0.toNat + 4)).drop i.toNat).drop 2 := by rw [List.drop_drop, List.drop_drop]; congr 1; omega
    rw [this, ← ht]; rfl
   rw [← e1, ← e2]
   refine ⟨valT_no (by show ¬ ((7 : Int) = 2 ∨ (7 : Int) = 6); omega), ?_⟩
   have := (vd_at h h0 (show a0 ≤ a0 + 4 + i + 2 by omega) h2 (by decide)).2
   rw [show a0 + 4 + i + 2 + 1 = a0 + 4 + i + 3 from by omega] at this
   exact this
  ·cases e
 split at e
 ·rename_i hst
  unfold plainP at e
  simp only at e
  split at e
  ·rename_i hc
   injection e with e; injection e with e1 e2
   obtain ⟨r, hr⟩ := cut_yes hc
   obtain ⟨t, ht⟩ := stands_app' (s := [60, 33, 91, 67, 68, 65, 84, 65, 91]) hst
   obtain ⟨c, hcc⟩ : ∃ c, (Lib.cut (d.data.toList.drop (a0.toNat + 9)) [93, 93, 62]).1 = c := ⟨_, rfl⟩
   rw [hcc] at hr e1 e2
   have h8 : d.data.toList.drop (a0 + 8).toNat = 91 :: t := by
    have : d.data.toList.drop (a0 + 8).toNat = (d.data.toList.drop a0.toNat).drop 8 := by rw [List.drop_drop]; congr 1; omega
    rw [this, ht]; rfl
   have hv := (vd_at h h0 (show a0 ≤ a0 + 8 by omega) h8 (by decide)).2
   rw [show (a0 + 8 + 1).toNat = a0.toNat + 9 from by omega] at hv
   have hw := (valid_cut _ hv c 93 _ hr (by decide)).1
   have h2 : d.data.toList.drop (a0 + 9 + (c.length : Int) + 2).toNat = 62 :: r := by
    have : d.data.toList.drop (a0 + 9 + (c.length : Int) + 2).toNat = (d.data.toList.drop (a0.toNat + 9)).drop (c.length + 2) := by rw [List.drop_drop]; congr 1; omega
    rw [this, hr, show c ++ ([93, 93, 62] ++ r) = (c ++ [93, 93]) ++ 62 :: r from by simp, List.drop_left' (by simp)]
   rw [← e1, ← e2]
   refine ⟨valT_one hw, ?_⟩
   have := (vd_at h h0 (show a0 ≤ a0 + 9 + (c.length : Int) + 2 by omega) h2 (by decide)).2
   rw [show a0 + 9 + (c.length : Int) + 2 + 1 = a0 + 9 + (c.length : Int) + 3 from by omega] at this
   exact this
  ·cases e
 split at e
 ·unfold closingP at e
  simp only at e
  have hs := name_ge d.data.toList (a0 + 2)
  have hs2 := skip_ge d.data.toList (nameEndP d.data.toList (a0 + 2))
  split at e
  ·cases e
  split at e
  ·rename_i s1
   injection e with e; injection e with e1 e2
   obtain ⟨t, ht⟩ := stands_app' (s := [62]) s1
   rw [← e1, ← e2]
   exact ⟨valT_no (by show ¬ ((5 : Int) = 2 ∨ (5 : Int) = 6); omega), (vd_at h h0 (show a0 ≤ _ by omega) ht (by decide)).2⟩
  ·cases e
 split at e
 ·unfold tagP at e
  simp only at e
  have hs := name_ge d.data.toList (a0 + 1)
  split at e
  ·cases e
  ·exact attrs_val h h0 _ _ _ _ _ (by omega) (valT_no (by show ¬ ((1 : Int) = 2 ∨ (1 : Int) = 6); omega)) e
 ·unfold textP at e
  simp only at e
  obtain ⟨b, hb⟩ : ∃ b, (Lib.cut (d.data.toList.drop a0.toNat) [60]).1 = b := ⟨_, rfl⟩
  rw [hb] at e
  cases hd : dec b with
  | none => rw [hd] at e; cases e
  | some v =>
   rw [hd] at e
   injection e with e; injection e with e1 e2
   have key : validL b = true ∧ validL (d.data.toList.drop (a0 + (b.length : Int)).toNat) = true := by
    cases hc : (Lib.cut (d.data.toList.drop a0.toNat) [60]).2.2 with
    | true =>
     obtain ⟨r, hr⟩ := cut_yes hc
     rw [hb] at hr
     have h1 := valid_cut _ h b 60 r hr (by decide)
     refine ⟨h1.1, ?_⟩
     have : d.data.toList.drop (a0 + (b.length : Int)).toNat = (d.data.toList.drop a0.toNat).drop b.length := by rw [List.drop_drop]; congr 1; omega
     rw [this, hr, List.drop_left]
     exact h1.2
    | false =>
     have := cut_no hc
     rw [hb] at this
     refine ⟨by rw [this]; exact h, ?_⟩
     have e3 : d.data.toList.drop (a0 + (b.length : Int)).toNat = (d.data.toList.drop a0.toNat).drop b.length := by rw [List.drop_drop]; congr 1; omega
     rw [e3, this, List.drop_of_length_le (Nat.le_refl _)]; rfl
   rw [← e1, ← e2]
   exact ⟨valT_one (dec_valid _ _ v (Nat.le_refl _) key.1 hd), key.2⟩
end
theorem lexF_val (d : ByteArray) (n : Nat) : ∀ (a : Int) (acc l : List Tok), 0 ≤ a → validL (d.data.toList.drop a.toNat) = true → ValT acc → lexF d n a acc = some l → ValT l := by
 induction n with
 | zero => intro a acc l _ _ _ h; cases h
 | succ n ih =>
  intro a acc l h0 hv hacc h
  unfold lexF at h
  split at h
  ·rename_i hlt
   cases hS : stepP d a with
   | none => rw [hS] at h; cases h
   | some v =>
    obtain ⟨new, a'⟩ := v
    rw [hS] at h
    have hr := (step_room d a h0 hlt new a' hS).1
    obtain ⟨v1, v2⟩ := step_val hv h0 new a' hS
    exact ih a' (acc ++ new) l (by omega) v2 (valT_app hacc v1) h
  ·obtain rfl := Option.some.inj h
   exact hacc
theorem lexV_val (s : ByteArray) : ValT (lexV s).1 := by
 unfold lexV
 split
 ·intro t ht; cases ht
 split
 ·intro t ht; cases ht
 ·rename_i hv
  cases h : lexO s with
  | none => intro t ht; cases ht
  | some l => exact lexF_val s _ 0 [] l (Int.le_refl _) (by rw [show (0 : Int).toNat = 0 from rfl, List.drop_zero]; simpa using hv) (fun t ht => by cases ht) h
def VP (p : PS) : Prop := (∀ m, m ∈ p.n → validL m.f3.data.toList = true) ∧ validL p.x.data.toList = true
theorem vp_put {p : PS} (h : VP p) (k nm : Int) (v name : ByteArray) (hv : validL v.data.toList = true) : VP (putP p k nm v name) := by
 refine ⟨fun m hm => ?_, h.2⟩
 have hm : m ∈ p.n ++ [⟨k, nm, topP p.o, v⟩] := hm
 rcases List.mem_append.1 hm with hm | hm
 ·exact h.1 m hm
 ·rw [List.mem_singleton.1 hm]; exact hv
theorem vp_flush {p : PS} (h : VP p) : VP (flushP p) := by
 unfold flushP
 split
 ·exact ⟨h.1, rfl⟩
 split
 ·exact ⟨h.1, rfl⟩
 ·exact vp_put (p := { p with x := ⟨#[]⟩ }) ⟨h.1, rfl⟩ 3 (-1) p.x ⟨#[]⟩ h.2
theorem vp_end {p : PS} (h : VP p) (name : ByteArray) : VP (endP p name) := by
 unfold endP
 simp only
 split
 ·exact vp_flush h
 ·exact vp_flush h
theorem vp_step {p : PS} (h : VP p) (t : Tok) (ht : t.f0 = 2 ∨ t.f0 = 6 → validL t.f4.data.toList = true) : VP (X.stepT p t) := by
 unfold X.stepT
 split
 ·exact h
 split
 ·rename_i e
  refine ⟨h.1, ?_⟩
  show validL (p.x ++ t.f4).data.toList = true
  rw [ByteArray.data_append, Array.toList_append, valid_append _ _ h.2]
  exact ht (.inr e)
 split
 ·unfold beginP
  simp only
  exact vp_put (p := { flushP p with wr := _, dp := _ }) (vp_flush h) 1 0 ⟨#[]⟩ t.f3 rfl
 split
 ·rename_i e
  exact vp_put (p := { p with wr := _ }) h 2 0 t.f4 t.f3 (ht (.inl e))
 split
 ·exact vp_end h _
 split
 ·exact vp_end h _
 ·exact h
theorem vp_run : ∀ (l : List Tok) (p : PS), VP p → ValT l → VP (l.foldl X.stepT p)
 | [], p, h, _ => h
 | t :: l, p, h, hl => vp_run l _ (vp_step h t (hl t (List.mem_cons_self ..))) fun u hu => hl u (List.mem_cons_of_mem _ hu)
section
variable {κ κ' : Type} (g : Nd × κ → Nd × κ') (g0 : ∀ c, (g c).1.f0 = c.1.f0) (g2 : ∀ c, (g c).1.f2 = c.1.f2)
include g2 in
theorem kids_map (l : List (Nd × κ)) (p : Int) : kids (l.map g) p = (kids l p).map g := by
 unfold kids
 rw [List.filter_map]
 congr 1
 refine List.filter_congr fun c _ => ?_
 show decide ((g c).1.f2 = p) = decide (c.1.f2 = p)
 rw [g2]
variable [DecidableEq κ] [DecidableEq κ']
include g0 g2 in
theorem right_map (l : List (Nd × κ)) (op : List Int) (c : Nd × κ) (hi : ∀ d, d ∈ l → d.1.f0 = 2 → c.1.f0 = 2 → ((g d).2 = (g c).2 ↔ d.2 = c.2)) : right (l.map g) op (g c).1 (g c).2 = right l op c.1 c.2 := by
 have e1 : (l.map g = []) = (l = []) := by rw [List.map_eq_nil_iff]
 have e2 : ∀ p, more (l.map g) p = more l p := fun p => by
  unfold more
  rw [kids_map g g2, List.any_map]
  congr 1
  funext d
  show decide (¬ (g d).1.f0 = 2) = decide (¬ d.1.f0 = 2)
  rw [g0]
 have e3 : ∀ p, textLast (l.map g) p = textLast l p := fun p => by
  unfold textLast
  rw [kids_map g g2, List.getLast?_map]
  cases (kids l p).getLast? with
  | none => rfl
  | some d => show decide ((g d).1.f0 = 3) = decide (d.1.f0 = 3); rw [g0]
 have e4 : c.1.f0 = 2 → ∀ p, twice (l.map g) p (g c).2 = twice l p c.2 := fun hc p => by
  unfold twice
  rw [kids_map g g2, List.any_map, Bool.eq_iff_iff, List.any_eq_true, List.any_eq_true]
  refine exists_congr fun d => and_congr_right fun hd => ?_
  have hdl : d ∈ l := (List.mem_filter.1 hd).1
  show ((decide ((g d).1.f0 = 2) && decide ((g d).2 = (g c).2)) = true) ↔ _
  rw [g0, Bool.and_eq_true, Bool.and_eq_true, decide_eq_true_eq, decide_eq_true_eq, decide_eq_true_eq]
  exact and_congr_right fun h2 => hi d hdl h2 hc
 unfold right
 simp only [e1, g0, g2, e2, e3, List.length_map]
 split
 ·rfl
 ·split
  ·split
   ·rfl
   ·split
    ·rename_i hc
     rw [e4 hc]
    ·rfl
  ·rfl
include g0 g2 in
theorem run_map : ∀ (R l : List (Nd × κ)) (op : List Int), (∀ c, c ∈ l ++ R → ∀ d, d ∈ l ++ R → c.1.f0 = 2 → d.1.f0 = 2 → ((g d).2 = (g c).2 ↔ d.2 = c.2)) → run (l.map g) (R.map g) op = (run l R op).map fun x => (x.1.map g, x.2)
 | [], l, op, _ => rfl
 | c :: R, l, op, h => by
  rw [List.map_cons, run, run, right_map g g0 g2 l op c (fun d hd h2 hc => h c (by simp) d (by simp [hd]) hc h2)]
  cases right l op c.1 c.2 with
  | none => rfl
  | some o =>
   have := run_map R (l ++ [c]) o (by simpa using h)
   rw [List.map_append] at this
   exact this
end
theorem numbered_f (S : List (List UInt8)) (m : Nod) (s : ByteArray) : (numbered S m s).f0 = m.f0 ∧ (numbered S m s).f2 = m.f2 ∧ (numbered S m s).f3 = m.f3 := by
 unfold numbered; split <;> exact ⟨rfl, rfl, rfl⟩
theorem check_parse (s : ByteArray) (h : (parseV s).2 = 0) : checkV (parseV s).1.1 (parseV s).1.2 = 0 := by
 obtain ⟨p, e, hf, ho, h1, h2, h3, h4, h5⟩ := parse_fit s h
 have hNm : Nmd p := by rw [h5]; exact parse_names s
 have hV : VP p := by rw [h5]; exact vp_flush (vp_run _ _ ⟨fun m hm => (by cases hm), rfl⟩ (lexV_val s))
 rw [h4]
 simp only
 obtain ⟨S, hS⟩ : ∃ S, sortedP (namesOf p) = S := ⟨_, rfl⟩
 have hmem : ∀ c, c ∈ p.n.zip p.s → ¬ c.1.f0 = 3 → c.2.data.toList ∈ S := fun c hc h3 => by
  rw [← hS, P13.mem_sorted]
  unfold namesOf
  rw [List.mem_filterMap]
  exact ⟨c, hc, by rw [if_neg h3]⟩
 have hnd : S.Nodup := by rw [← hS]; exact sorted_nodup _
 have hlen : (P13.treeN p).length = p.n.length := P13.treeN_len p hf.len
 have hT : P13.treeN p = (p.n.zip p.s).map fun c => numbered S c.1 c.2 := by unfold P13.treeN; rw [hS]
 let g : Nd × List UInt8 → Nd × Int := fun c => (numbered S c.1 (bytesL c.2), (numbered S c.1 (bytesL c.2)).f1)
 have hpr : prK (P13.treeN p) = (prs p).map g := by
  unfold prK prs
  rw [hT, List.map_map, List.zip_map_right, List.map_map]
  refine List.map_congr_left fun c _ => ?_
  rfl
 have hinj : ∀ c, c ∈ ([] : List (Nd × List UInt8)) ++ prs p → ∀ d, d ∈ ([] : List (Nd × List UInt8)) ++ prs p → c.1.f0 = 2 → d.1.f0 = 2 → ((g d).2 = (g c).2 ↔ d.2 = c.2) := by
  have hin : ∀ c, c ∈ prs p → c.1.f0 = 2 → c.2 ∈ S := fun c hc h2 => by
   unfold prs at hc
   rw [List.zip_map_right, List.mem_map] at hc
   obtain ⟨q, hq, rfl⟩ := hc
   exact hmem q hq (by show ¬ q.1.f0 = 3; have : q.1.f0 = 2 := h2; omega)
  intro c hc d hd hc2 hd2
  rw [List.nil_append] at hc hd
  have e1 : (g c).2 = (S.idxOf c.2 : Int) := by show (numbered S c.1 (bytesL c.2)).f1 = _; unfold numbered; rw [if_neg (by omega)]; rfl
  have e2 : (g d).2 = (S.idxOf d.2 : Int) := by show (numbered S d.1 (bytesL d.2)).f1 = _; unfold numbered; rw [if_neg (by omega)]; rfl
  rw [e1, e2]
  constructor
  ·intro he
   have i1 := List.idxOf_lt_length_of_mem (hin c hc hc2)
   have i2 := List.idxOf_lt_length_of_mem (hin d hd hd2)
   have g1 : S[S.idxOf c.2] = c.2 := List.getElem_idxOf i1
   have g2' : S[S.idxOf d.2] = d.2 := List.getElem_idxOf i2
   have hee : S.idxOf d.2 = S.idxOf c.2 := by omega
   rw [← g1, ← g2']
   simp only [hee]
  ·intro he; rw [he]
 have hrows : (rows (prK (P13.treeN p))).isSome = true := by
  have hr := hf.row
  unfold rows at hr ⊢
  rw [hpr]
  have := run_map g (fun c => (numbered_f S c.1 _).1) (fun c => (numbered_f S c.1 _).2.1) (prs p) [] [] hinj
  rw [List.map_nil] at this
  rw [this]
  cases hq : run [] (prs p) [] with
  | none => rw [hq] at hr; cases hr
  | some x => rfl
 have hSl : (S.map bytesL).length = S.length := List.length_map _
 have hall : (P13.treeN p).all (okNod (S.map bytesL).length) = true := by
  rw [List.all_eq_true, hT]
  intro y hy
  rw [List.mem_map] at hy
  obtain ⟨c, hc, rfl⟩ := hy
  have hcn : c.1 ∈ p.n := (List.of_mem_zip hc).1
  have hk := hf.kin c.1 hcn
  have hv := hV.1 c.1 hcn
  unfold okNod namedP
  rw [(numbered_f S c.1 c.2).1, (numbered_f S c.1 c.2).2.2, hv, Bool.and_true]
  by_cases h3 : c.1.f0 = 3
  ·rw [if_pos h3]
   rcases hk with k | k | k
   ·omega
   ·omega
   ·have : (numbered S c.1 c.2).f1 = -1 := by unfold numbered; rw [if_pos h3]; exact k.2.1
    rw [this]
    cases hl : c.1.f3.data.toList with
    | nil => exact absurd hl k.2.2
    | cons a t => rfl
  ·rw [if_neg h3]
   have hi := List.idxOf_lt_length_of_mem (hmem c hc h3)
   have hf1 : (numbered S c.1 c.2).f1 = (S.idxOf c.2.data.toList : Int) := by unfold numbered; rw [if_neg h3]
   rw [hf1, decide_eq_true (by omega), decide_eq_true (by rw [hSl]; omega)]
   rcases hk with k | k | k
   ·rw [k.1, k.2]; rfl
   ·rw [k]; rfl
   ·exact absurd k.1 h3
 have hnodes := nodes_rows (S.map bytesL).length (P13.treeN p)
 rw [hall, hrows] at hnodes
 have hnames : namesC (S.map bytesL) (P13.treeN p) = true := by
  unfold namesC
  rw [List.all_eq_true]
  intro k hk
  rw [List.mem_range, hSl] at hk
  have hg : ∀ j (hj : j < S.length), ((S.map bytesL).getD j ⟨#[]⟩) = bytesL S[j] := fun j hj => by rw [List.getD_eq_getElem?_getD, List.getElem?_map, List.getElem?_eq_getElem hj]; rfl
  have hin : S[k] ∈ namesOf p := by
   have := List.getElem_mem hk
   rw [← P13.mem_sorted, hS]; exact this
  unfold namesOf at hin
  rw [List.mem_filterMap] at hin
  obtain ⟨c, hc, hce⟩ := hin
  split at hce
  ·cases hce
  rename_i h3'
  have hce := Option.some.inj hce
  have hnm := hNm c hc h3'
  rw [hce] at hnm
  rw [hg k hk, Bool.and_eq_true, Bool.and_eq_true, Bool.and_eq_true, Bool.or_eq_true, List.any_eq_true]
  refine ⟨⟨_, by rw [hT]; exact List.mem_map.2 ⟨c, hc, rfl⟩, ?_⟩, ⟨?_, ?_⟩, ?_⟩
  ·have hf1 : (numbered S c.1 c.2).f1 = (S.idxOf c.2.data.toList : Int) := by unfold numbered; rw [if_neg h3']
   rw [hf1, hce]
   have hm := List.idxOf_lt_length_of_mem (List.getElem_mem hk)
   have := (List.getElem_inj (h₀ := hm) (h₁ := hk) hnd).1 (List.getElem_idxOf hm)
   rw [this]; simp
  ·have : 0 < S[k].length := hnm.1
   show (!S[k].isEmpty) = true
   cases hl : S[k] with
   | nil => rw [hl] at this; exact absurd this (by simp)
   | cons a t => rfl
  ·show (nameEndP S[k] 0 == ((bytesL S[k]).size : Int)) = true
   rw [beq_iff_eq, Lib.size_eq]
   show nameEndP S[k] 0 = (S[k].length : Int)
   unfold nameEndP
   rw [if_pos ⟨by omega, by have := hnm.1; omega⟩]
   have := hnm.2
   show (0 : Int) + (nameLen (S[k].drop 0) : Int) = _
   rw [List.drop_zero, this]; omega
  ·by_cases k0 : k = 0
   ·exact .inl (decide_eq_true k0)
   ·refine .inr (decide_eq_true ?_)
    rw [hg (k - 1) (by omega)]
    show S[k - 1] < S[k]
    have := sorted_lt (namesOf p) (k - 1) S[k - 1] S[k] (by rw [hS]; exact List.getElem?_eq_getElem (by omega)) (by rw [hS, show k - 1 + 1 = k from by omega]; exact List.getElem?_eq_getElem hk)
    exact this
 rw [hS] at h3 ⊢
 unfold checkV
 rw [hlen, if_neg (by rw [hSl]; omega)]
 have hnn : (nodesC (S.map bytesL).length (P13.treeN p) 0 (zeroC p.n.length)).isNone = false := by
  rw [hlen] at hnodes
  cases hq : nodesC (S.map bytesL).length (P13.treeN p) 0 (zeroC p.n.length) with
  | none => rw [hq] at hnodes; cases hnodes
  | some x => rfl
 rw [hnn, if_neg (by decide), if_pos hnames]
end Go.Proofs.YtlhhhlimjajnlaaGreat.P14
end
