/- Parts of the proof of canonParsed_holds, kept and merged by a program of mine (wip/tools/slim.py) out of my texts: P14w P12x P12a P12b P12c P12d P12e AtW AtC -/
import Derived.Lib.IndexMore
import Derived.Test.YtlhhhlimjajnlaaGreatSPd9
import Derived.Test.YtlhhhlimjajnlaaGreatSPd32
import Derived.Test.YtlhhhlimjajnlaaGreatSPd20
import Derived.Test.YtlhhhlimjajnlaaGreatSPd5
import Derived.Test.YtlhhhlimjajnlaaGreatSPd15
import Derived.Test.YtlhhhlimjajnlaaGreatSPd22
import Derived.Test.YtlhhhlimjajnlaaGreatSPd23
import Derived.Test.YtlhhhlimjajnlaaGreatSPd16
section
set_option linter.unusedVariables false
set_option linter.unusedSimpArgs false
namespace Go.Proofs.YtlhhhlimjajnlaaGreat.P14
open Go.RowKit Go.Proofs.YtlhhhlimjajnlaaGreat Go.Proofs.YtlhhhlimjajnlaaGreat.Q Go.Proofs.YtlhhhlimjajnlaaGreatW.PrintWords Go.Proofs.YtlhhhlimjajnlaaGreat.X Go.Proofs.YtlhhhlimjajnlaaGreat.Ck Go.Proofs.YtlhhhlimjajnlaaGreat.P12
def nml (N : List ByteArray) (x : Nod) : Nat := (N.getD x.f1.toNat ⟨#[]⟩).data.toList.length
def wt (N : List ByteArray) (x : Nod) : Nat := (if x.f0 = 3 then 0 else 2 * nml N x) + 6 * x.f3.data.toList.length + 8
def opL (N : List ByteArray) (D : List Nod) : List Int → Nat
 | [] => 0
 | z :: r => (nameW N D z).length + 4 + opL N D r
theorem opL_app (N : List ByteArray) (D : List Nod) : ∀ a b : List Int, opL N D (a ++ b) = opL N D a + opL N D b
 | [], b => by simp [opL]
 | z :: a, b => by
  show (nameW N D z).length + 4 + opL N D (a ++ b) = (nameW N D z).length + 4 + opL N D a + opL N D b
  rw [opL_app N D a b]; omega
def sumW (N : List ByteArray) : List Nod → Nat
 | [] => 0
 | x :: r => wt N x + sumW N r
theorem esc6 : ∀ l : List UInt8, (escL l).length ≤ 6 * l.length
 | [] => by simp [escL]
 | b :: t => by
  have := esc6 t
  have : (escB b).length ≤ 6 := by unfold escB; repeat' (split <;> try simp)
  rw [escL_cons, List.length_append, List.length_cons]; omega
section
variable {N : List ByteArray} {D : List Nod}
theorem ready_len (s : WS) : (readyW s).out.length ≤ s.out.length + 1 ∧ (readyW s).op = s.op := by
 refine ⟨?_, rfl⟩
 unfold readyW
 split <;> simp
theorem pop_len (s : WS) (h : ¬ s.op = []) : (popW N D s).out.length + opL N D (popW N D s).op ≤ s.out.length + opL N D s.op := by
 have h1 := (ready_len s).1
 have e : s.op = s.op.dropLast ++ [s.op.getLastD 0] := by
  rcases List.eq_nil_or_concat s.op with e | ⟨r, z, e⟩
  ·exact absurd e h
  ·rw [List.concat_eq_append] at e
   rw [e, List.dropLast_concat, List.getLastD_concat]
 have e2 : opL N D s.op = opL N D s.op.dropLast + ((nameW N D (s.op.getLastD 0)).length + 4) := by
  conv => lhs; rw [e]
  rw [opL_app]; rfl
 show ((readyW s).out ++ ([60, 47] ++ nameW N D (s.op.getLastD 0) ++ [62])).length + opL N D s.op.dropLast ≤ _
 simp only [List.length_append, List.length_cons, List.length_nil]
 omega
theorem close_len (p : Int) : ∀ (k : Nat) (s : WS), (closeW N D p k s).out.length + opL N D (closeW N D p k s).op ≤ s.out.length + opL N D s.op
 | 0, s => Nat.le_refl _
 | k + 1, s => by
  unfold closeW
  split
  ·exact Nat.le_refl _
  ·rename_i hc
   exact Nat.le_trans (close_len p k _) (pop_len s fun e => hc (.inl e))
theorem node_len (i : Nat) (x : Nod) (s : WS) (hx : D.getD i ⟨0, 0, 0, ⟨#[]⟩⟩ = x) : (nodeW N D i x s).out.length + opL N D (nodeW N D i x s).op ≤ s.out.length + opL N D s.op + wt N x := by
 have hc := close_len (N := N) (D := D) x.f2 s.op.length s
 have he := esc6 x.f3.data.toList
 unfold nodeW
 simp only
 generalize closeW N D x.f2 s.op.length s = c at hc
 have hr := (ready_len c).1
 unfold wt nml
 split
 ·rename_i h2
  rw [if_neg (by omega)]
  simp only [List.length_append, List.length_cons, List.length_nil]
  omega
 ·split
  ·rename_i h3
   rw [(ready_len c).2]
   simp only [List.length_append]
   omega
  ·rename_i h3
   rw [(ready_len c).2, opL_app]
   have hn : nameW N D (i : Int) = (N.getD x.f1.toNat ⟨#[]⟩).data.toList := by unfold nameW; rw [Int.toNat_natCast, hx]
   rw [show opL N D [(i : Int)] = (nameW N D (i : Int)).length + 4 + 0 from rfl, hn]
   simp only [List.length_append, List.length_cons, List.length_nil]
   omega
theorem nodes_len : ∀ (l : List Nod) (i : Nat) (s : WS), D.drop i = l → (nodesW N D l i s).out.length + opL N D (nodesW N D l i s).op ≤ s.out.length + opL N D s.op + sumW N l
 | [], i, s, _ => by unfold nodesW sumW; omega
 | x :: l, i, s, h => by
  have hi : i < D.length := by
   rcases Nat.lt_or_ge i D.length with e | e
   ·exact e
   ·rw [List.drop_of_length_le e] at h; cases h
  have hx : D.getD i ⟨0, 0, 0, ⟨#[]⟩⟩ = x ∧ D.drop (i + 1) = l := by
   rw [List.drop_eq_getElem_cons hi] at h
   injection h with h1 h2
   exact ⟨by rw [List.getD_eq_getElem?_getD, List.getElem?_eq_getElem hi]; exact h1, h2⟩
  have h1 := node_len (N := N) i x s hx.1
  have h2 := nodes_len l (i + 1) (nodeW N D i x s) hx.2
  unfold nodesW sumW
  omega
theorem end_len (N : List ByteArray) (D : List Nod) : (endW N D).out.length ≤ sumW N D := by
 have h1 := nodes_len (N := N) D 0 ⟨[], [], false⟩ rfl
 have h2 := close_len (N := N) (D := D) (-1) (nodesW N D D 0 ⟨[], [], false⟩).op.length (nodesW N D D 0 ⟨[], [], false⟩)
 unfold endW
 simp only
 have : opL N D ([] : List Int) = 0 := rfl
 simp only [List.length_nil] at h1
 omega
end
end Go.Proofs.YtlhhhlimjajnlaaGreat.P14
end
section
set_option linter.unusedVariables false
set_option linter.unusedSimpArgs false
namespace Go.Proofs.YtlhhhlimjajnlaaGreat.P12
open Go Go.RowKit Go.Proofs.YtlhhhlimjajnlaaGreat Go.Proofs.YtlhhhlimjajnlaaGreat.Q Go.Proofs.YtlhhhlimjajnlaaGreatW.PrintWords Go.Proofs.YtlhhhlimjajnlaaGreat.X Go.Proofs.YtlhhhlimjajnlaaGreat.P11
def NmL (l : List UInt8) : Prop := 0 < l.length ∧ nameLen l = l.length
def Not1 (p : UInt8 → Bool) (t : List UInt8) : Prop := ∀ c r, t = c :: r → p c = false
theorem takeWhile_stop (p : UInt8 → Bool) : ∀ (s t : List UInt8), (∀ c, c ∈ s → p c = true) → Not1 p t → (s ++ t).takeWhile p = s
 | [], t, _, h => by
  cases t with
  | nil => rfl
  | cons c r => rw [List.nil_append, List.takeWhile_cons_of_neg (by rw [h c r rfl]; decide)]
 | c :: s, t, hs, h => by
  rw [List.cons_append, List.takeWhile_cons_of_pos (hs c (List.mem_cons_self ..)), takeWhile_stop p s t (fun d hd => hs d (List.mem_cons_of_mem _ hd)) h]
theorem all_of_takeWhile (p : UInt8 → Bool) : ∀ l : List UInt8, (l.takeWhile p).length = l.length → ∀ c, c ∈ l → p c = true
 | [], _, c, hc => by cases hc
 | a :: t, h, c, hc => by
  by_cases ha : p a = true
  ·rw [List.takeWhile_cons_of_pos ha, List.length_cons, List.length_cons] at h
   rcases List.mem_cons.1 hc with rfl | hc
   ·exact ha
   ·exact all_of_takeWhile p t (by omega) c hc
  ·rw [List.takeWhile_cons_of_neg ha] at h
   exact absurd h (by simp)
theorem skipx_at (l : List UInt8) (i : Int) (h0 : 0 ≤ i) (s t : List UInt8) (h : l.drop i.toNat = s ++ t) (hs : ∀ c, c ∈ s → spaceB c = true) (ht : Not1 spaceB t) : skipP l i = i + s.length := by
 unfold skipP
 by_cases c : 0 ≤ i ∧ i < (l.length : Int)
 ·rw [if_pos c, h, takeWhile_stop spaceB s t hs ht]
 ·rw [if_neg c]
  have := congrArg List.length h
  rw [List.length_drop, List.length_append] at this
  omega
theorem nm_all {nm : List UInt8} (h : NmL nm) : ∃ c r, nm = c :: r ∧ nameB c = true ∧ ∀ d, d ∈ r → (nameB d || moreB d) = true := by
 obtain ⟨h1, h2⟩ := h
 cases nm with
 | nil => exact absurd h1 (by decide)
 | cons c r =>
  rw [nameLen_cons] at h2
  by_cases hc : nameB c = true
  ·rw [if_pos hc, List.length_cons] at h2
   exact ⟨c, r, rfl, hc, all_of_takeWhile _ r (by omega)⟩
  ·rw [if_neg hc] at h2; simp at h2
theorem namex_at (l : List UInt8) (i : Int) (h0 : 0 ≤ i) (nm t : List UInt8) (h : l.drop i.toNat = nm ++ t) (hn : NmL nm) (ht : Not1 (fun d => nameB d || moreB d) t) : nameEndP l i = i + nm.length := by
 obtain ⟨c, r, rfl, hc, hr⟩ := nm_all hn
 have hl := congrArg List.length h
 rw [List.length_drop, List.length_append, List.length_cons] at hl
 unfold nameEndP
 rw [if_pos ⟨h0, by omega⟩, h, List.cons_append, nameLen_cons, if_pos hc, takeWhile_stop _ r t hr ht, List.length_cons]
 omega
theorem stands_yes (d : ByteArray) (i : Int) (s t : List UInt8) (h : d.data.toList.drop i.toNat = s ++ t) : standsB d i ⟨s.toArray⟩ = true := by
 unfold standsB Lib.hasPrefix
 rw [h]
 exact List.isPrefixOf_iff_prefix.2 ⟨t, rfl⟩
theorem stands_no (d : ByteArray) (i : Int) (c x : UInt8) (s t : List UInt8) (h : d.data.toList.drop i.toNat = c :: t) (hx : ¬ c = x) : standsB d i ⟨(x :: s).toArray⟩ = false := by
 rw [stands_in d i c t (x :: s) h]
 simp only [List.isPrefixOf, Bool.and_eq_false_iff, beq_eq_false_iff_ne, ne_eq]
 exact Or.inl (fun e => hx e.symm)
theorem part_at (d : ByteArray) (i j : Int) (s t : List UInt8) (h0 : 0 ≤ i) (hj : j = i + s.length) (h : d.data.toList.drop i.toNat = s ++ t) : partB d i j = ⟨s.toArray⟩ := by
 unfold partB
 apply ByteArray.ext
 apply Array.ext'
 rw [Lib.extract_data, h, show j.toNat - i.toNat = s.length from by omega, List.take_left]
theorem drop_on (l : List UInt8) (i j : Int) (h0 : 0 ≤ i) (s t : List UInt8) (h : l.drop i.toNat = s ++ t) (hj : j = i + s.length) : l.drop j.toNat = t := by
 have : l.drop j.toNat = (l.drop i.toNat).drop s.length := by rw [List.drop_drop]; congr 1; omega
 rw [this, h, List.drop_left]
theorem cut_first (s t : List UInt8) (q : UInt8) (h : ∀ c, c ∈ s → ¬ c = q) : Lib.cut (s ++ q :: t) [q] = (s, t, true) := by
 have hi : Lib.index (s ++ q :: t) [q] = (s.length : Int) := by
  refine Lib.index_first (by simp) ?_ fun j hj => ?_
  ·unfold Lib.occAt
   rw [List.drop_left]; simp [List.isPrefixOf]
  ·unfold Lib.occAt
   rw [List.drop_append_of_le_length (by omega), List.drop_eq_getElem_cons hj]
   have := h s[j] (List.getElem_mem hj)
   simp only [List.cons_append, List.isPrefixOf, Bool.and_eq_false_iff, beq_eq_false_iff_ne, ne_eq]
   exact Or.inl (fun e => this e.symm)
 unfold Lib.cut
 rw [hi, if_pos (by omega)]
 simp
structure At where
 a : List UInt8
 n : List UInt8
 b : List UInt8
 c : List UInt8
 q : UInt8
 w : List UInt8
 v : List UInt8
def At.out (x : At) : List UInt8 := x.a ++ (x.n ++ (x.b ++ ([61] ++ (x.c ++ ([x.q] ++ (x.w ++ [x.q]))))))
theorem At.out_pos (x : At) : 1 ≤ x.out.length := by unfold At.out; simp only [List.length_append, List.length_cons, List.length_nil]; omega
structure At.Ok (x : At) : Prop where
 a : ¬ x.a = [] ∧ ∀ c, c ∈ x.a → spaceB c = true
 n : NmL x.n
 b : ∀ c, c ∈ x.b → spaceB c = true
 c : ∀ c, c ∈ x.c → spaceB c = true
 q : x.q = 34 ∨ x.q = 39
 w : ∀ c, c ∈ x.w → ¬ c = x.q ∧ ¬ c = 60
 v : dec x.w = some x.v
def keyT (t : Tok) : Int × List UInt8 × List UInt8 := (t.f0, t.f3.data.toList, t.f4.data.toList)
theorem space_other {p : UInt8 → Bool} {s t : List UInt8} (hs : ∀ c, c ∈ s → spaceB c = true) (hp : ∀ c, spaceB c = true → p c = false) (ht : Not1 p t) : Not1 p (s ++ t) := by
 cases s with
 | nil => exact ht
 | cons a s =>
  intro c r e
  injection e with e _
  subst e
  exact hp _ (hs _ (List.mem_cons_self ..))
theorem space_no_name (c : UInt8) (h : spaceB c = true) : (nameB c || moreB c) = false := by
 unfold spaceB at h
 unfold nameB moreB
 simp only [decide_eq_true_eq] at h
 simp only [Bool.or_eq_false_iff, decide_eq_false_iff_not]
 omega
theorem name_no_space (c : UInt8) (h : nameB c = true) : spaceB c = false := by
 unfold spaceB
 unfold nameB at h
 simp only [decide_eq_true_eq] at h
 simp only [decide_eq_false_iff_not]
 omega
theorem not1_cons {p : UInt8 → Bool} {c : UInt8} {t : List UInt8} (h : p c = false) : Not1 p (c :: t) := fun d r e => by injection e with e _; rw [← e]; exact h
theorem nm_not_space {nm t : List UInt8} (h : NmL nm) : Not1 spaceB (nm ++ t) := by
 obtain ⟨c, r, rfl, hc, -⟩ := nm_all h
 exact not1_cons (name_no_space c hc)
theorem attr_at (d : ByteArray) (i : Int) (h0 : 0 ≤ i) (x : At) (hx : x.Ok) (t : List UInt8) (h : d.data.toList.drop i.toNat = x.out ++ t) : ∃ y, attrP d i = some ([y], i + (x.out.length : Int)) ∧ keyT y = (2, x.n, x.v) := by
 have hq34 : spaceB 34 = false ∧ spaceB 39 = false := by decide
 unfold At.out at h ⊢
 simp only [List.append_assoc] at h
 simp only [List.length_append, List.length_cons, List.length_nil]
 obtain ⟨F, hF⟩ : ∃ F, i + (x.a.length : Int) = F := ⟨_, rfl⟩
 obtain ⟨E, hE⟩ : ∃ E, F + (x.n.length : Int) = E := ⟨_, rfl⟩
 obtain ⟨Q, hQ⟩ : ∃ Q, E + (x.b.length : Int) = Q := ⟨_, rfl⟩
 obtain ⟨O, hO⟩ : ∃ O, Q + 1 + (x.c.length : Int) = O := ⟨_, rfl⟩
 have hapos : 0 < x.a.length := List.length_pos_iff.2 hx.a.1
 have hnpos := hx.n.1
 have d1 := drop_on _ i F h0 _ _ h hF.symm
 have d2 := drop_on _ F E (by omega) _ _ d1 hE.symm
 have d3 := drop_on _ E Q (by omega) _ _ d2 hQ.symm
 have d4 := drop_on _ Q (Q + 1) (by omega) _ _ d3 rfl
 have d5 := drop_on _ (Q + 1) O (by omega) _ _ d4 hO.symm
 have d6 := drop_on _ O (O + 1) (by omega) _ _ d5 rfl
 have hqs : spaceB x.q = false := by rcases hx.q with e | e <;> rw [e]; exact hq34.1; exact hq34.2
 have e1 : skipP d.data.toList i = F := (skipx_at _ i h0 _ _ h hx.a.2 (nm_not_space hx.n)).trans hF
 have e2 : nameEndP d.data.toList F = E := (namex_at _ F (by omega) _ _ d1 hx.n (space_other hx.b space_no_name (not1_cons (by decide)))).trans hE
 have e3 : skipP d.data.toList E = Q := (skipx_at _ E (by omega) _ _ d2 hx.b (not1_cons (by decide))).trans hQ
 have e4 : skipP d.data.toList (Q + 1) = O := (skipx_at _ (Q + 1) (by omega) _ _ d4 hx.c (not1_cons hqs)).trans hO
 have e5 : standsB d Q ⟨#[61]⟩ = true := stands_yes d Q [61] _ d3
 have e6 : ¬ (standsB d O ⟨#[34]⟩ = false ∧ standsB d O ⟨#[39]⟩ = false) := by
  have := stands_yes d O [x.q] _ d5
  rintro ⟨c1, c2⟩
  rcases hx.q with e | e
  ·rw [e] at this
   rw [show (⟨([34] : List UInt8).toArray⟩ : ByteArray) = ⟨#[34]⟩ from rfl, c1] at this; cases this
  ·rw [e] at this
   rw [show (⟨([39] : List UInt8).toArray⟩ : ByteArray) = ⟨#[39]⟩ from rfl, c2] at this; cases this
 have e7 : (partB d O (O + 1)).data.toList = [x.q] := by rw [part_at d O (O + 1) [x.q] _ (by omega) rfl d5]
 have e8 : Lib.cut (d.data.toList.drop (O + 1).toNat) (partB d O (O + 1)).data.toList = (x.w, t, true) := by
  rw [e7, d6]
  exact cut_first x.w t x.q fun c hc => (hx.w c hc).1
 have e9 : ¬ 0 ≤ Lib.indexByte x.w 60 := by
  rw [← Lib.index_one, index_out x.w fun c hc => (hx.w c hc).2]; decide
 unfold attrP
 simp only [e1, e2, e3, e4, e8]
 rw [if_neg (by omega), if_neg (by omega), if_neg (by rw [e5]; decide), if_neg e6, if_neg (by decide), if_neg e9, hx.v]
 refine ⟨⟨2, F, O + (x.w.length : Int) + 2, partB d F E, ⟨x.v.toArray⟩⟩, ?_, ?_⟩
 ·show some (_, _) = some (_, _)
  rw [Option.some.injEq, Prod.mk.injEq]
  exact ⟨rfl, by omega⟩
 unfold keyT
 rw [part_at d F E x.n _ (by omega) hE.symm d1]
def ends (empty : Bool) : List UInt8 := if empty = true then [47, 62] else [62]
def endKey (empty : Bool) : Int × List UInt8 × List UInt8 := (if empty = true then 4 else 3, [], [])
theorem attrs_at (d : ByteArray) (sp : List UInt8) (hsp : ∀ c, c ∈ sp → spaceB c = true) (empty : Bool) (t : List UInt8) : ∀ (xs : List At) (n : Nat) (i : Int) (acc : List Tok), 0 ≤ i → (∀ x, x ∈ xs → x.Ok) → xs.length < n → d.data.toList.drop i.toNat = xs.flatMap At.out ++ (sp ++ (ends empty ++ t)) →
 ∃ ts, attrsF d n i acc = some (acc ++ ts, i + ((xs.flatMap At.out ++ (sp ++ ends empty)).length : Int)) ∧ ts.map keyT = (xs.map fun x => ((2 : Int), x.n, x.v)) ++ [endKey empty]
 | [], n + 1, i, acc, h0, _, _, h => by
  simp only [List.flatMap_nil, List.nil_append] at h ⊢
  have hns : Not1 spaceB (ends empty ++ t) := by
   unfold ends
   split
   ·exact not1_cons (by decide)
   ·exact not1_cons (by decide)
  have e1 := skipx_at _ i h0 _ _ h hsp hns
  have d1 := drop_on _ i _ h0 _ _ h rfl
  unfold attrsF
  rw [e1]
  cases empty with
  | false =>
   rw [if_pos (stands_yes d _ [62] t d1)]
   refine ⟨[⟨3, i + (sp.length : Int), i + (sp.length : Int) + 1, ⟨#[]⟩, ⟨#[]⟩⟩], ?_, rfl⟩
   rw [Option.some.injEq, Prod.mk.injEq, show ends false = [62] from rfl, List.length_append, List.length_singleton]
   exact ⟨rfl, by omega⟩
  | true =>
   rw [if_neg (by rw [show (⟨#[62]⟩ : ByteArray) = ⟨((62 : UInt8) :: []).toArray⟩ from rfl, stands_no d _ 47 62 [] (62 :: t) d1 (by decide)]; decide), if_pos (stands_yes d _ [47, 62] t d1)]
   refine ⟨[⟨4, i + (sp.length : Int), i + (sp.length : Int) + 2, ⟨#[]⟩, ⟨#[]⟩⟩], ?_, rfl⟩
   rw [Option.some.injEq, Prod.mk.injEq, show ends true = [47, 62] from rfl, List.length_append]
   exact ⟨rfl, by simp only [List.length_cons, List.length_nil]; omega⟩
 | x :: xs, n + 1, i, acc, h0, hx, hn, h => by
  rw [List.flatMap_cons, List.append_assoc] at h
  obtain ⟨y, hy, hk⟩ := attr_at d i h0 x (hx x (List.mem_cons_self ..)) _ h
  have d1 := drop_on _ i _ h0 _ _ h rfl
  obtain ⟨ts, hts, hkk⟩ := attrs_at d sp hsp empty t xs n (i + (x.out.length : Int)) (acc ++ [y]) (by omega) (fun z hz => hx z (List.mem_cons_of_mem _ hz)) (by simpa using hn) d1
  have hox := hx x (List.mem_cons_self ..)
  have e1 : ∃ s u, x.out ++ (xs.flatMap At.out ++ (sp ++ (ends empty ++ t))) = x.a ++ (s :: u) ∧ nameB s = true := by
   obtain ⟨c, r, hc, hc2, -⟩ := nm_all hox.n
   unfold At.out
   rw [hc]
   exact ⟨c, _, by simp only [List.append_assoc, List.cons_append]; rfl, hc2⟩
  obtain ⟨s, u, e1, hs⟩ := e1
  have h' := h
  rw [e1] at h'
  have hsk := skipx_at _ i h0 _ _ h' hox.a.2 (not1_cons (name_no_space s hs))
  have d2 := drop_on _ i _ h0 _ _ h' rfl
  have n1 : ¬ s = 62 := fun e => by rw [e] at hs; exact absurd hs (by decide)
  have n2 : ¬ s = 47 := fun e => by rw [e] at hs; exact absurd hs (by decide)
  unfold attrsF
  rw [hsk, if_neg (by rw [show (⟨#[62]⟩ : ByteArray) = ⟨((62 : UInt8) :: []).toArray⟩ from rfl, stands_no d _ s 62 [] u d2 n1]; decide), if_neg (by rw [show (⟨#[47, 62]⟩ : ByteArray) = ⟨((47 : UInt8) :: [62]).toArray⟩ from rfl, stands_no d _ s 47 [62] u d2 n2]; decide), hy]
  refine ⟨y :: ts, ?_, by rw [List.map_cons, List.map_cons, hk, hkk]; rfl⟩
  show attrsF d n _ (acc ++ [y]) = _
  rw [hts, List.append_assoc]
  simp only [List.flatMap_cons, List.append_assoc, List.length_append, List.singleton_append]
  congr 2
  omega
def tagOut (nm : List UInt8) (xs : List At) (sp : List UInt8) (empty : Bool) : List UInt8 := 60 :: (nm ++ (xs.flatMap At.out ++ (sp ++ ends empty)))
theorem tag_lex (d : ByteArray) (nm : List UInt8) (xs : List At) (sp : List UInt8) (empty : Bool) (hd : d.data.toList = tagOut nm xs sp empty) (hn : NmL nm) (hx : ∀ x, x ∈ xs → x.Ok) (hsp : ∀ c, c ∈ sp → spaceB c = true) :
 ∃ ts, lexO d = some ts ∧ ts.map keyT = (1, nm, []) :: ((xs.map fun x => ((2 : Int), x.n, x.v)) ++ [endKey empty]) := by
 unfold tagOut at hd
 have hsz : d.size = (60 :: (nm ++ (xs.flatMap At.out ++ (sp ++ ends empty)))).length := by rw [Lib.size_eq, hd]
 obtain ⟨c, r, hc, hc2, -⟩ := nm_all hn
 have h0 : d.data.toList.drop (0 : Int).toNat = 60 :: (c :: (r ++ (xs.flatMap At.out ++ (sp ++ ends empty)))) := by rw [show (0 : Int).toNat = 0 from rfl, List.drop_zero, hd, hc]; rfl
 have h1 : d.data.toList.drop ((0 : Int) + 1).toNat = nm ++ (xs.flatMap At.out ++ (sp ++ ends empty)) := by rw [show ((0 : Int) + 1).toNat = 1 from rfl, hd]; rfl
 have hnot : Not1 (fun d => nameB d || moreB d) (xs.flatMap At.out ++ (sp ++ ends empty)) := by
  cases xs with
  | nil =>
   simp only [List.flatMap_nil, List.nil_append]
   refine space_other hsp space_no_name ?_
   unfold ends
   split
   ·exact not1_cons (by decide)
   ·exact not1_cons (by decide)
  | cons x xs =>
   have hox := hx x (List.mem_cons_self ..)
   cases ha : x.a with
   | nil => exact absurd ha hox.a.1
   | cons s u =>
    have hs : spaceB s = true := hox.a.2 s (by rw [ha]; exact List.mem_cons_self ..)
    intro e f he
    rw [List.flatMap_cons] at he
    unfold At.out at he
    rw [ha] at he
    simp only [List.cons_append] at he
    injection he with he _
    subst he
    exact space_no_name _ hs
 have e1 := namex_at _ ((0 : Int) + 1) (by omega) _ _ h1 hn hnot
 have d2 := drop_on _ ((0 : Int) + 1) _ (by omega) _ _ h1 rfl
 have hpart := part_at d ((0 : Int) + 1) _ nm _ (by omega) rfl h1
 have hnl := hn.1
 obtain ⟨ts, hts, hk⟩ := attrs_at d sp hsp empty [] xs (d.size + 1) ((0 : Int) + 1 + nm.length) [⟨1, 0, (0 : Int) + 1 + nm.length, ⟨nm.toArray⟩, ⟨#[]⟩⟩] (by omega) hx (by
  rw [hsz]
  have : ∀ ys : List At, ys.length ≤ (ys.flatMap At.out).length := by
   intro ys
   induction ys with
   | nil => simp
   | cons y ys ih => rw [List.flatMap_cons, List.length_append, List.length_cons]; have := y.out_pos; omega
  have := this xs
  simp only [List.length_cons, List.length_append]
  omega) (by rw [d2, List.append_nil])
 have hst : stepP d 0 = some ([⟨1, 0, (0 : Int) + 1 + nm.length, ⟨nm.toArray⟩, ⟨#[]⟩⟩] ++ ts, (d.size : Int)) := by
  unfold stepP
  have n1 : ¬ c = 33 := fun e => by rw [e] at hc2; exact absurd hc2 (by decide)
  have n2 : ¬ c = 47 := fun e => by rw [e] at hc2; exact absurd hc2 (by decide)
  have no : ∀ (x : UInt8) (s : List UInt8), ¬ c = x → standsB d 0 ⟨(60 :: x :: s).toArray⟩ = false := by
   intro x s hcx
   rw [stands_in d 0 60 _ (60 :: x :: s) h0]
   simp only [List.isPrefixOf, Bool.and_eq_false_iff, beq_eq_false_iff_ne, ne_eq]
   exact Or.inr (Or.inl fun e => hcx e.symm)
  rw [if_neg (by rw [show (⟨#[60, 33, 45, 45]⟩ : ByteArray) = ⟨((60 : UInt8) :: 33 :: [45, 45]).toArray⟩ from rfl, no 33 _ n1]; decide),
   if_neg (by rw [show (⟨#[60, 33, 91, 67, 68, 65, 84, 65, 91]⟩ : ByteArray) = ⟨((60 : UInt8) :: 33 :: [91, 67, 68, 65, 84, 65, 91]).toArray⟩ from rfl, no 33 _ n1]; decide),
   if_neg (by rw [show (⟨#[60, 47]⟩ : ByteArray) = ⟨((60 : UInt8) :: 47 :: []).toArray⟩ from rfl, no 47 _ n2]; decide),
   if_pos (stands_yes d 0 [60] _ h0)]
  unfold tagP
  simp only [e1, hpart]
  rw [if_neg (by omega), hts, hsz]
  simp only [List.length_cons, List.length_append]
  congr 2
  omega
 have hpos : 0 < d.size := by rw [hsz]; simp
 refine ⟨[⟨1, 0, (0 : Int) + 1 + nm.length, ⟨nm.toArray⟩, ⟨#[]⟩⟩] ++ ts, ?_, by rw [List.map_append, hk]; rfl⟩
 unfold lexO
 obtain ⟨n, hn⟩ : ∃ n, d.size = n + 1 := ⟨d.size - 1, by omega⟩
 rw [show d.size + 1 = n + 1 + 1 from by omega, lexF, if_pos (by omega), hst]
 simp only [List.nil_append]
 rw [lexF, if_neg (by omega)]
theorem close_lex (d : ByteArray) (nm : List UInt8) (hd : d.data.toList = [60, 47] ++ nm ++ [62]) (hn : NmL nm) : ∃ t, lexO d = some [t] ∧ keyT t = (5, nm, []) := by
 have hsz : d.size = nm.length + 3 := by rw [Lib.size_eq, hd]; simp
 have h0 : d.data.toList.drop (0 : Int).toNat = 60 :: (47 :: (nm ++ [62])) := by rw [show (0 : Int).toNat = 0 from rfl, List.drop_zero, hd]; simp
 have h1 : d.data.toList.drop ((0 : Int) + 2).toNat = nm ++ [62] := by rw [show ((0 : Int) + 2).toNat = 2 from rfl, hd]; simp
 have e1 := namex_at _ ((0 : Int) + 2) (by omega) _ _ h1 hn (not1_cons (by decide))
 have d2 := drop_on _ ((0 : Int) + 2) _ (by omega) _ _ h1 rfl
 have e2 := skipx_at _ ((0 : Int) + 2 + nm.length) (by omega) [] [62] d2 (fun c hc => by cases hc) (not1_cons (by decide))
 have hpart := part_at d ((0 : Int) + 2) _ nm _ (by omega) rfl h1
 have hnl := hn.1
 rw [List.length_nil, Int.natCast_zero, Int.add_zero] at e2
 have hst : stepP d 0 = some ([⟨5, 0, (0 : Int) + 2 + nm.length + 1, ⟨nm.toArray⟩, ⟨#[]⟩⟩], (d.size : Int)) := by
  unfold stepP
  have no : ∀ (s : List UInt8), standsB d 0 ⟨(60 :: 33 :: s).toArray⟩ = false := by
   intro s
   rw [stands_in d 0 60 _ (60 :: 33 :: s) h0]
   simp [List.isPrefixOf]
  rw [if_neg (by rw [show (⟨#[60, 33, 45, 45]⟩ : ByteArray) = ⟨((60 : UInt8) :: 33 :: [45, 45]).toArray⟩ from rfl, no]; decide),
   if_neg (by rw [show (⟨#[60, 33, 91, 67, 68, 65, 84, 65, 91]⟩ : ByteArray) = ⟨((60 : UInt8) :: 33 :: [91, 67, 68, 65, 84, 65, 91]).toArray⟩ from rfl, no]; decide),
   if_pos (stands_yes d 0 [60, 47] _ h0)]
  unfold closingP
  simp only [e1, e2, hpart]
  rw [if_neg (by omega), if_pos (stands_yes d _ [62] [] d2), hsz]
  congr 2
  omega
 exact ⟨_, lexO_one d _ hst (by omega), rfl⟩
theorem esc_step (s d : ByteArray) (hd : d.data.toList = escL s.data.toList) (hsz : 0 < d.size) : stepP d 0 = some ([⟨6, 0, d.size, ⟨#[]⟩, s⟩], (d.size : Int)) := by
 cases hc : d.data.toList with
 | nil => rw [Lib.size_eq, hc] at hsz; exact absurd hsz (by simp)
 | cons x t =>
  have hx : ¬ x = 60 := esc_no_less s.data.toList x (by rw [← hd, hc]; exact List.mem_cons_self ..)
  have hi : Lib.index (x :: t) [60] = -1 := index_out _ (fun y hy => esc_no_less s.data.toList y (by rw [← hd, hc]; exact hy))
  have hcut : (Lib.cut (x :: t) [60]).1 = x :: t := by unfold Lib.cut; rw [hi, if_neg (by decide)]
  have hdec : dec (x :: t) = some s.data.toList := by rw [← hc, hd, dec_esc]
  unfold stepP
  rw [if_neg (by rw [show (⟨#[60, 33, 45, 45]⟩ : ByteArray) = ⟨([60, 33, 45, 45] : List UInt8).toArray⟩ from rfl, stands_first d x t _ hc hx]; decide),
   if_neg (by rw [show (⟨#[60, 33, 91, 67, 68, 65, 84, 65, 91]⟩ : ByteArray) = ⟨([60, 33, 91, 67, 68, 65, 84, 65, 91] : List UInt8).toArray⟩ from rfl, stands_first d x t _ hc hx]; decide),
   if_neg (by rw [show (⟨#[60, 47]⟩ : ByteArray) = ⟨([60, 47] : List UInt8).toArray⟩ from rfl, stands_first d x t _ hc hx]; decide),
   if_neg (by rw [show (⟨#[60]⟩ : ByteArray) = ⟨([60] : List UInt8).toArray⟩ from rfl, stands_first d x t _ hc hx]; decide)]
  unfold textP
  rw [show (0 : Int).toNat = 0 from rfl, List.drop_zero, hc]
  simp only [hcut, hdec]
  rw [← hc, ← Lib.size_eq, Lib.mk_data, Int.zero_add]
def lowB (c : UInt8) : Prop := c.toNat < 128 ∧ allowedB (c.toNat : Int) = true
theorem valid_lows : ∀ (a t : List UInt8), (∀ c, c ∈ a → lowB c) → validL (a ++ t) = validL t
 | [], t, _ => rfl
 | c :: a, t, h => by
  obtain ⟨h1, h2⟩ := h c (List.mem_cons_self ..)
  obtain ⟨h3, h4⟩ := enc_low c h1
  have := valid_enc (c.toNat : Int) h3 (a ++ t)
  rw [h4, h2, Bool.true_and] at this
  exact this.trans (valid_lows a t fun d hd => h d (List.mem_cons_of_mem _ hd))
theorem low_of {c : UInt8} (h : (32 ≤ c.toNat ∧ c.toNat < 128) ∨ c.toNat = 9 ∨ c.toNat = 10 ∨ c.toNat = 13) : lowB c := by
 refine ⟨by omega, ?_⟩
 unfold allowedB pointB
 simp only [Bool.or_eq_true, beq_iff_eq, Bool.and_eq_true, decide_eq_true_eq, Bool.not_eq_true', beq_eq_false_iff_ne, ne_eq]
 omega
theorem low_space {c : UInt8} (h : spaceB c = true) : lowB c := by
 unfold spaceB at h
 simp only [decide_eq_true_eq] at h
 exact low_of (by omega)
theorem low_name {c : UInt8} (h : (nameB c || moreB c) = true) : lowB c := by
 unfold nameB moreB at h
 simp only [Bool.or_eq_true, decide_eq_true_eq] at h
 exact low_of (by omega)
theorem low_nm {nm : List UInt8} (h : NmL nm) : ∀ c, c ∈ nm → lowB c := by
 obtain ⟨c, r, rfl, hc, hr⟩ := nm_all h
 intro d hd
 rcases List.mem_cons.1 hd with rfl | hd
 ·exact low_name (by rw [hc]; rfl)
 ·exact low_name (hr d hd)
theorem At.valid {x : At} (h : x.Ok) (hv : validL x.w = true) (t : List UInt8) : validL (x.out ++ t) = validL t := by
 unfold At.out
 simp only [List.append_assoc]
 have hq : ∀ c, c ∈ [x.q] → lowB c := fun c hc => by
  rw [List.mem_singleton] at hc
  subst hc
  rcases h.q with e | e <;> rw [e] <;> exact low_of (by decide)
 rw [valid_lows _ _ (fun c hc => low_space (h.a.2 c hc)), valid_lows _ _ (low_nm h.n), valid_lows _ _ (fun c hc => low_space (h.b c hc)), valid_lows [61] _ (fun c hc => by rw [List.mem_singleton] at hc; subst hc; exact low_of (by decide)),
  valid_lows _ _ (fun c hc => low_space (h.c c hc)), valid_lows _ _ hq, valid_append _ _ hv, valid_lows _ _ hq]
theorem tag_valid {nm : List UInt8} {xs : List At} {sp : List UInt8} {empty : Bool} (hn : NmL nm) (hx : ∀ x, x ∈ xs → x.Ok ∧ validL x.w = true) (hsp : ∀ c, c ∈ sp → spaceB c = true) : validL (tagOut nm xs sp empty) = true := by
 have key : ∀ (ys : List At) (t : List UInt8), (∀ x, x ∈ ys → x.Ok ∧ validL x.w = true) → validL (ys.flatMap At.out ++ t) = validL t := by
  intro ys
  induction ys with
  | nil => intro t _; rfl
  | cons y ys ih =>
   intro t h
   rw [List.flatMap_cons, List.append_assoc, At.valid (h y (List.mem_cons_self ..)).1 (h y (List.mem_cons_self ..)).2, ih t fun x hx => h x (List.mem_cons_of_mem _ hx)]
 unfold tagOut
 show validL ([60] ++ (nm ++ (xs.flatMap At.out ++ (sp ++ ends empty)))) = true
 rw [valid_lows [60] _ (fun c hc => by rw [List.mem_singleton] at hc; subst hc; exact low_of (by decide)), valid_lows _ _ (low_nm hn), key xs _ hx, valid_lows _ _ (fun c hc => low_space (hsp c hc))]
 cases empty <;> rfl
theorem esc_mem : ∀ (l : List UInt8) (c : UInt8), c ∈ escL l → ¬ c = 34 ∧ (c = 39 → c ∈ l)
 | [], c, h => by cases h
 | b :: t, c, h => by
  rw [escL_cons] at h
  rcases List.mem_append.1 h with h | h
  ·unfold escB at h
   repeat' split at h
   all_goals first
    | (simp only [List.mem_cons, List.not_mem_nil, or_false] at h; refine ⟨fun e => ?_, fun e => ?_⟩ <;> subst e <;> exact absurd h (by decide))
    | (rw [List.mem_singleton] at h; subst h; exact ⟨by assumption, fun _ => List.mem_cons_self ..⟩)
  ·obtain ⟨h1, h2⟩ := esc_mem t c h
   exact ⟨h1, fun e => List.mem_cons_of_mem _ (h2 e)⟩
theorem prefix_take (t l : List UInt8) : t.isPrefixOf l = (l.take t.length == t) := by
 rw [Bool.eq_iff_iff, beq_iff_eq, List.isPrefixOf_iff_prefix]
 constructor
 ·rintro ⟨r, rfl⟩; simp
 ·intro h
  refine ⟨l.drop t.length, ?_⟩
  have := List.take_append_drop t.length l
  rw [h] at this; exact this
theorem stands_out (s t : ByteArray) (i : Int) (h0 : 0 ≤ i) (ht : 0 < t.size) (h : ¬ i + t.size ≤ (s.size : Int)) : standsB s i t = false := by
 unfold standsB Lib.hasPrefix
 rw [Bool.eq_false_iff]
 intro hp
 obtain ⟨r, hr⟩ := List.isPrefixOf_iff_prefix.1 hp
 have := congrArg List.length hr
 rw [List.length_append, List.length_drop, ← Lib.size_eq, ← Lib.size_eq] at this
 omega
theorem part_is (s t : ByteArray) (i : Int) (h0 : 0 ≤ i) (h : i + t.size ≤ (s.size : Int)) : ((s.extract i.toNat (i + (t.size : Int)).toNat).toList == t.toList) = standsB s i t := by
 unfold standsB Lib.hasPrefix
 rw [prefix_take, Lib.toList_data, Lib.toList_data, Lib.extract_data, show (i + (t.size : Int)).toNat - i.toNat = t.data.toList.length from by rw [← Lib.size_eq]; omega]
theorem begins_f (s t : ByteArray) (i : Int) (h0 : 0 ≤ i) (hi : i ≤ 4294967296) (ht : 0 < t.size) (hts : t.size ≤ 4294967296) : R2_begins.f s i t = some (standsB s i t) := by
 unfold R2_begins.f
 rw [cwr _ (by omega) (by omega)]
 by_cases h : i + (t.size : Int) ≤ (s.size : Int)
 ·rw [if_pos h, if_pos h0, if_pos (by omega), part_is s t i h0 h]
 ·rw [if_neg h, stands_out s t i h0 ht h]
def findN (l t : List UInt8) (i : Nat) : Int := if Lib.index (l.drop i) t < 0 then -1 else i + Lib.index (l.drop i) t
theorem find_l0 (s t : ByteArray) (hs : s.size ≤ 4294967296) (ht : 0 < t.size) (hts : t.size ≤ 4294967296) (d : Nat) : ∀ (n k : Nat), s.size + 1 - n = d → n ≤ s.size + 1 → d + 1 ≤ k → R2_find.l0 k s t n = some (findN s.data.toList t.data.toList n) := by
 have hsz : s.data.toList.length = s.size := (Lib.size_eq s).symm
 have htl : t.data.toList.length = t.size := (Lib.size_eq t).symm
 have hout : ∀ n : Nat, ¬ n + t.size ≤ s.size → Lib.index (s.data.toList.drop n) t.data.toList = -1 := by
  intro n hn
  by_cases hi : 0 ≤ Lib.index (s.data.toList.drop n) t.data.toList
  ·have := Lib.index_room _ _ hi
   rw [List.length_drop] at this; omega
  ·have := Lib.index_ge (s.data.toList.drop n) t.data.toList; omega
 induction d with
 | zero =>
  intro n k hd hn hk
  obtain ⟨k, rfl⟩ : ∃ j, k = j + 1 := ⟨k - 1, by omega⟩
  unfold R2_find.l0
  rw [cwr _ (by omega) (by omega), if_neg (by omega)]
  unfold findN
  rw [hout n (by omega), if_pos (by omega)]
 | succ d ih =>
  intro n k hd hn hk
  obtain ⟨k, rfl⟩ : ∃ j, k = j + 1 := ⟨k - 1, by omega⟩
  unfold R2_find.l0
  rw [cwr _ (by omega) (by omega)]
  by_cases h : (n : Int) + (t.size : Int) ≤ (s.size : Int)
  ·have hcons := List.drop_eq_getElem_cons (show n < s.data.toList.length by omega)
   have hp := part_is s t n (by omega) h
   rw [if_pos h, if_pos (by omega), if_pos (by omega)]
   have hst : standsB s n t = t.data.toList.isPrefixOf (s.data.toList.drop n) := by unfold standsB Lib.hasPrefix; rw [show ((n : Nat) : Int).toNat = n from by omega]
   rw [hst] at hp
   by_cases hq : t.data.toList.isPrefixOf (s.data.toList.drop n) = true
   ·rw [hq, beq_iff_eq] at hp
    rw [if_pos hp]
    unfold findN
    have : Lib.index (s.data.toList.drop n) t.data.toList = 0 := by
     rw [hcons] at hq ⊢
     show (if _ then _ else _) = _
     rw [if_pos hq]
    rw [this, if_neg (by omega)]; simp
   ·have hp' : ¬ _ := fun e => hq (by rw [← hp, beq_iff_eq]; exact e)
    rw [if_neg hp', cwr _ (by omega) (by omega), show ((n : Nat) : Int) + 1 = ((n + 1 : Nat) : Int) from by omega, ih (n + 1) k (by omega) (by omega) (by omega)]
    unfold findN
    have hx : Lib.index (s.data.toList.drop n) t.data.toList = if Lib.index (s.data.toList.drop (n + 1)) t.data.toList == -1 then -1 else Lib.index (s.data.toList.drop (n + 1)) t.data.toList + 1 := by
     rw [hcons] at hq ⊢
     show (if _ then _ else _) = _
     rw [if_neg hq]
    have hge := Lib.index_ge (s.data.toList.drop (n + 1)) t.data.toList
    rw [hx]
    generalize Lib.index (s.data.toList.drop (n + 1)) t.data.toList = J at hge
    by_cases hm : J = -1
    ·subst hm; rfl
    ·have e1 : (J == -1) = false := beq_eq_false_iff_ne.2 hm
     rw [e1]
     simp only [Bool.false_eq_true, if_false]
     rw [if_neg (show ¬ J < 0 by omega), if_neg (show ¬ J + 1 < 0 by omega)]
     congr 1; omega
  ·rw [if_neg h]
   unfold findN
   rw [hout n (by omega), if_pos (by omega)]
theorem find_f (s t : ByteArray) (i : Int) (h0 : 0 ≤ i) (hi : i ≤ (s.size : Int) + 1) (hs : s.size ≤ 4294967296) (ht : 0 < t.size) (hts : t.size ≤ 4294967296) (k : Nat) (hk : s.size + 2 ≤ k) : R2_find.f k s i t = some (findN s.data.toList t.data.toList i.toNat) := by
 unfold R2_find.f
 have := find_l0 s t hs ht hts (s.size + 1 - i.toNat) i.toNat k rfl (by omega) (by omega)
 rw [show ((i.toNat : Nat) : Int) = i from by omega] at this
 exact this
def decR (t : ByteArray) (l : List UInt8) : ByteArray × Bool := match dec l with
 | some v => (t ++ ⟨v.toArray⟩, true)
 | none => (⟨#[]⟩, false)
theorem app_mk (t : ByteArray) (v u : List UInt8) : t ++ (⟨(v ++ u).toArray⟩ : ByteArray) = (t ++ ⟨v.toArray⟩) ++ ⟨u.toArray⟩ := by
 apply ByteArray.ext; apply Array.ext'
 simp [ByteArray.data_append, List.append_assoc]
theorem decR_map (t : ByteArray) (v : List UInt8) (l u : List UInt8) (h : dec l = (dec u).map (v ++ ·)) : decR t l = decR (t ++ ⟨v.toArray⟩) u := by
 unfold decR
 rw [h]
 cases dec u with
 | none => rfl
 | some w => show (t ++ (⟨(v ++ w).toArray⟩ : ByteArray), true) = _; rw [app_mk]
theorem app_nil (t : ByteArray) : t ++ (⟨([] : List UInt8).toArray⟩ : ByteArray) = t := by
 apply ByteArray.ext; apply Array.ext'
 simp [ByteArray.data_append]
theorem mk_size (v : List UInt8) : (⟨v.toArray⟩ : ByteArray).size = v.length := by simp [ByteArray.size]
theorem decoded_l0 (s : ByteArray) (hs : s.size ≤ 4294967000) (d : Nat) : ∀ (n k : Nat) (t : ByteArray), s.size - n ≤ d → n ≤ s.size → d + 1 ≤ k → t.size ≤ 4 * n → R2_decoded.l0 k s t n = some (decR t (s.data.toList.drop n)) := by
 have hsz : s.data.toList.length = s.size := (Lib.size_eq s).symm
 have hend : ∀ (k : Nat) (t : ByteArray), 1 ≤ k → R2_decoded.l0 k s t s.size = some (decR t (s.data.toList.drop s.size)) := by
  intro k t hk
  obtain ⟨k, rfl⟩ : ∃ j, k = j + 1 := ⟨k - 1, by omega⟩
  unfold R2_decoded.l0
  rw [if_neg (by omega), List.drop_of_length_le (by omega)]
  unfold decR
  rw [dec_nil]
  show some (t, true) = some (t ++ (⟨([] : List UInt8).toArray⟩ : ByteArray), true)
  rw [app_nil]
 induction d with
 | zero =>
  intro n k t hd hn hk ht
  have : n = s.size := by omega
  subst this
  exact hend k t (by omega)
 | succ d ih =>
  intro n k t hd hn hk ht
  by_cases hlt : n < s.size
  ·obtain ⟨k, rfl⟩ : ∃ j, k = j + 1 := ⟨k - 1, by omega⟩
   have hcons := cdrop_cons s n hlt
   obtain ⟨c, hc⟩ : ∃ c, s[n] = c := ⟨_, rfl⟩
   rw [hc] at hcons
   unfold R2_decoded.l0
   rw [if_pos (by omega), if_pos (by omega), bt_get' s n hlt, hc]
   by_cases h38 : c = 38
   ·subst h38
    rw [if_pos (by decide), R1_Entity.f, if_pos (by omega), Option.bind_some, refEnt_eq]
    have hent : entP s.data.toList n = entL (38 :: s.data.toList.drop (n + 1)) := by
     unfold entP; rw [if_pos ⟨by omega, by omega⟩, show ((n : Nat) : Int).toNat = n from by omega, hcons]
    have hok := entL_ok (38 :: s.data.toList.drop (n + 1))
    have hdec := dec_amp (s.data.toList.drop (n + 1))
    have hlen : (38 :: s.data.toList.drop (n + 1)).length = s.size - n := by rw [← hcons, List.length_drop, hsz]
    rw [hlen] at hok
    rw [hent]
    obtain ⟨e, he⟩ : ∃ e, entL (38 :: s.data.toList.drop (n + 1)) = e := ⟨_, rfl⟩
    rw [he] at hok hdec ⊢
    obtain ⟨e1, e2⟩ := e
    simp only at hok hdec ⊢
    by_cases hz : e2 = 0
    ·rw [if_pos hz] at hdec
     rw [if_pos hz, hcons]
     unfold decR
     rw [hdec]
    ·rw [if_neg hz] at hdec
     have hes := mk_size e1
     rw [if_neg hz, if_pos (by omega), cwr _ (by omega) (by omega)]
     obtain ⟨m, hm⟩ : ∃ m : Nat, e2 = (m : Int) := ⟨e2.toNat, by omega⟩
     subst hm
     rw [show ((n : Nat) : Int) + (m : Int) = ((n + m : Nat) : Int) from by omega, ih (n + m) k _ (by omega) (by omega) (by omega) (by rw [ByteArray.size_append]; omega)]
     rw [← hcons, show ((m : Nat) : Int).toNat = m from by omega, List.drop_drop] at hdec
     rw [hcons] at hdec ⊢
     rw [decR_map t e1 _ _ hdec]
   ·have hne : ¬ ((c.toNat : Int) = 38) := fun e => h38 (UInt8.toNat_inj.1 (by show c.toNat = 38; omega))
    have hx : (s.extract n (n + 1)).data.toList = [c] := by
     rw [Lib.extract_data, hcons]; simp
    have hxs : (s.extract n (n + 1)).size = 1 := by rw [Lib.size_eq, hx]; rfl
    have hxe : s.extract n (n + 1) = ⟨[c].toArray⟩ := by apply ByteArray.ext; apply Array.ext'; rw [hx]
    rw [if_neg hne, cwr _ (by omega) (by omega), if_pos (by omega), if_pos (by omega), show ((n : Nat) : Int).toNat = n from by omega, show (((n : Nat) : Int) + 1).toNat = n + 1 from by omega, hxs, if_pos (by omega), show ((n : Nat) : Int) + 1 = ((n + 1 : Nat) : Int) from by omega,
     ih (n + 1) k _ (by omega) (by omega) (by omega) (by rw [ByteArray.size_append, hxs]; omega), hxe, hcons]
    rw [decR_map t [c] (c :: s.data.toList.drop (n + 1)) (s.data.toList.drop (n + 1)) (dec_cons c _ h38)]
  ·have : n = s.size := by omega
   subst this
   exact hend k t (by omega)
theorem decoded_f (s : ByteArray) (hs : s.size ≤ 4294967000) (k : Nat) (hk : s.size + 1 ≤ k) : R2_decoded.f k s = some (decR ⟨#[]⟩ s.data.toList) := by
 have := decoded_l0 s hs s.size 0 k ⟨#[]⟩ (by omega) (by omega) hk (by decide)
 exact this
theorem cut_find (l t : List UInt8) (i : Nat) : (Lib.cut (l.drop i) t).2.2 = decide (0 ≤ findN l t i) ∧ (0 ≤ findN l t i → findN l t i = i + ((Lib.cut (l.drop i) t).1.length : Int) ∧ (Lib.cut (l.drop i) t).1 = (l.drop i).take (findN l t i - i).toNat) := by
 unfold findN Lib.cut
 have hle := Lib.index_le (l.drop i) t
 by_cases h : 0 ≤ Lib.index (l.drop i) t
 ·rw [if_pos h, if_neg (by omega)]
  refine ⟨by rw [decide_eq_true (by omega)], fun _ => ⟨?_, ?_⟩⟩
  ·show _ = (i : Int) + (((l.drop i).take _).length : Int)
   rw [List.length_take]; omega
  ·show (l.drop i).take _ = (l.drop i).take _
   congr 1; omega
 ·rw [if_neg h, if_pos (by omega)]
  exact ⟨by rw [decide_eq_false (by omega)], fun h => by omega⟩
def AttrSame (r : Int × Int × Int × ByteArray × ByteArray × Bool) (p : Option (List Tok × Int)) : Prop := match p with
 | some (new, a') => new = [⟨r.1, r.2.1, r.2.2.1, r.2.2.2.1, r.2.2.2.2.1⟩] ∧ r.2.2.2.2.2 = true ∧ a' = r.2.2.1
 | none => r.2.2.2.2.2 = false
theorem skip_at (s : ByteArray) (a : Int) (hs : s.size ≤ 65536) (k : Nat) (hk : 200000 ≤ k) : R1_Skip.f k s a = some (skipP s.data.toList a) := by
 obtain ⟨j, rfl⟩ : ∃ j, k = 2 * s.size + 2 + j := ⟨k - (2 * s.size + 2), by omega⟩
 exact ref_skip_f s a (by omega) j
theorem name_at (s : ByteArray) (a : Int) (hs : s.size ≤ 65536) (k : Nat) (hk : 200000 ≤ k) : R1_NameEnd.f k s a = some (nameEndP s.data.toList a) := by
 obtain ⟨j, rfl⟩ : ∃ j, k = 2 * s.size + 2 + j := ⟨k - (2 * s.size + 2), by omega⟩
 exact ref_name_f s a (by omega) j
def PieceSame (r : List Tok × Bool) (p : Option (List Tok × Int)) : Prop := match p with
 | some (new, a') => r = (new, true) ∧ ∃ t, new.getLast? = some t ∧ t.f2 = a'
 | none => r.2 = false
theorem rd_last (l : List Tok) (t : Tok) (h : (l ++ [t]).length ≤ 4294967296) : rd_T51 (l ++ [t]) (wrap64 (((l ++ [t]).length : Int) - 1)) = t := by
 rw [List.length_append, List.length_singleton] at h ⊢
 rw [cwr _ (by omega) (by omega)]
 unfold rd_T51
 rw [show (((l.length + 1 : Nat) : Int) - 1).toNat = l.length from by omega]
 simp
theorem part_eq (s : ByteArray) (i j : Int) (h0 : 0 ≤ i) (l : List UInt8) (h : l = (s.data.toList.drop i.toNat).take (j - i).toNat) (hij : i ≤ j) : s.extract i.toNat j.toNat = ⟨l.toArray⟩ := by
 apply ByteArray.ext; apply Array.ext'
 rw [Lib.extract_data, h, show j.toNat - i.toNat = (j - i).toNat from by omega]
end Go.Proofs.YtlhhhlimjajnlaaGreat.P12
end
section
set_option linter.unusedVariables false
set_option linter.unusedSimpArgs false
namespace Go.Proofs.YtlhhhlimjajnlaaGreat.P12
open Go Go.RowKit Go.Proofs.YtlhhhlimjajnlaaGreat Go.Proofs.YtlhhhlimjajnlaaGreat.Q Go.Proofs.YtlhhhlimjajnlaaGreatW.PrintWords Go.Proofs.YtlhhhlimjajnlaaGreatW.PrintLast Go.Proofs.YtlhhhlimjajnlaaGreatW.PrintMore Go.Proofs.YtlhhhlimjajnlaaGreat.X Go.Proofs.YtlhhhlimjajnlaaGreat.P11
attribute [local go_sem] max2_int min2_int max_two min_two   
abbrev SkipC (s : ByteArray) (a r : Int) : Prop := ∀ w, Calls Tryz.prog 67 #[.string s, .int .i64 a] w fun e w' => e = .returned (.int .i64 r) ∧ Drawn0 w w'
abbrev NameC (s : ByteArray) (a r : Int) : Prop := ∀ w, Calls Tryz.prog 53 #[.string s, .int .i64 a] w fun e w' => e = .returned (.int .i64 r) ∧ Drawn0 w w'
abbrev BegC (s : ByteArray) (a : Int) (t : ByteArray) (r : Bool) : Prop := ∀ w, Calls Tryz.prog 93 #[.string s, .int .i64 a, .string t] w fun e w' => e = .returned (.bool r) ∧ Drawn0 w w'
abbrev FindC (s : ByteArray) (a : Int) (t : ByteArray) (r : Int) : Prop := ∀ w, Calls Tryz.prog 94 #[.string s, .int .i64 a, .string t] w fun e w' => e = .returned (.int .i64 r) ∧ Drawn0 w w'
abbrev DecC (s v : ByteArray) (b : Bool) : Prop := ∀ w, Calls Tryz.prog 96 #[.string s] w fun e w' => e = .returned (.tuple #[.string v, .bool b]) ∧ Below w.heap.size w w'
abbrev AR := Int × Int × Int × ByteArray × ByteArray × Bool
def a0 : AR := (0, 0, 0, ⟨#[]⟩, ⟨#[]⟩, false)
def Ret (r : AR) (e : Ending) : Prop := e = .returned (.tuple #[.agg #[.int .i64 r.1, .int .i64 r.2.1, .int .i64 r.2.2.1, .string r.2.2.2.1, .string r.2.2.2.2.1], .bool r.2.2.2.2.2])
def C4 (s : ByteArray) (F E O : Int) (R : AR) : Prop := ((0 : Int) ≤ O) = True ∧ (O ≤ O + 1) = True ∧ (O + 1 ≤ (s.size : Int)) = True ∧ IntKind.i64.wrap (O + 1) = O + 1 ∧ ∃ T, FindC s (O + 1) (s.extract O.toNat (O + 1).toNat) T ∧ ((T < 0) = True ∧ R = a0 ∨ (T < 0) = False ∧ ((0 : Int) ≤ O + 1) = True ∧ (O + 1 ≤ T) = True ∧ (T ≤ (s.size : Int)) = True ∧ ∃ L, FindC (s.extract (O + 1).toNat T.toNat) 0 ⟨#[60]⟩ L ∧ (((0 : Int) ≤ L) = True ∧ R = a0 ∨ ((0 : Int) ≤ L) = False ∧ ∃ v b, DecC (s.extract (O + 1).toNat T.toNat) v b ∧ IntKind.i64.wrap (T + 1) = T + 1 ∧ ((0 : Int) ≤ F) = True ∧ (F ≤ E) = True ∧ (E ≤ (s.size : Int)) = True ∧ R = (2, F, T + 1, s.extract F.toNat E.toNat, v, b)))
def C3 (s : ByteArray) (F E Q : Int) (R : AR) : Prop := IntKind.i64.wrap (Q + 1) = Q + 1 ∧ ∃ O b2 b3, SkipC s (Q + 1) O ∧ BegC s O ⟨#[34]⟩ b2 ∧ BegC s O ⟨#[39]⟩ b3 ∧ (b2 = false ∧ b3 = false ∧ R = a0 ∨ (b2 = true ∨ b2 = false ∧ b3 = true) ∧ C4 s F E O R)
def C2 (s : ByteArray) (F E : Int) (R : AR) : Prop := ∃ Q b1, SkipC s E Q ∧ BegC s Q ⟨#[61]⟩ b1 ∧ (b1 = false ∧ R = a0 ∨ b1 = true ∧ C3 s F E Q R)
def C1 (s : ByteArray) (a : Int) (R : AR) : Prop := ∃ F E, SkipC s a F ∧ NameC s F E ∧ (((F == a) = true ∨ (F == a) = false ∧ (E == F) = true) ∧ R = a0 ∨ (F == a) = false ∧ (E == F) = false ∧ C2 s F E R)
set_option maxHeartbeats 8000000 in
set_option maxRecDepth 100000 in
theorem attr_go {s : ByteArray} {a : Int} {R : AR} (h : C1 s a R) (w : World) : Calls Tryz.prog 117 #[.string s, .int .i64 a] w fun e w' => Ret R e ∧ Below w.heap.size w w' := by
 obtain ⟨F, E, h1, h2, h⟩ := h
 have hbk := blk_new w (.cells #[.int .i64 0, .int .i64 0, .int .i64 0, .string ⟨#[]⟩, .string ⟨#[]⟩] 51)
 have hb := below_alloc (Below.refl w.heap.size w) (.cells #[.int .i64 0, .int .i64 0, .int .i64 0, .string ⟨#[]⟩, .string ⟨#[]⟩] 51)
 go_enter Tryz.func117, Tryz.ntmps117
 go_upto_region 1 with (fail)
 generalize w.alloc (.cells #[.int .i64 0, .int .i64 0, .int .i64 0, .string ⟨#[]⟩, .string ⟨#[]⟩] 51) = w1 at hbk hb ⊢
 have HBK := Lib.hid hbk
 have HB := Lib.hid hb
 have y0 := (blk_cell hbk 0).trans (show _ = some (Value.int .i64 0) from rfl)
 have f0 := blk_frozen hbk 0
 have y1 := (blk_cell hbk 1).trans (show _ = some (Value.int .i64 0) from rfl)
 have f1 := blk_frozen hbk 1
 have y2 := (blk_cell hbk 2).trans (show _ = some (Value.int .i64 0) from rfl)
 have f2 := blk_frozen hbk 2
 have y3 := (blk_cell hbk 3).trans (show _ = some (Value.string ⟨#[]⟩) from rfl)
 have f3 := blk_frozen hbk 3
 have y4 := (blk_cell hbk 4).trans (show _ = some (Value.string ⟨#[]⟩) from rfl)
 have f4 := blk_frozen hbk 4
 clear hbk hb
 rcases h with ⟨q1 | ⟨q1, q2⟩, rfl⟩ | ⟨q1, q2, Q, b1, h3, h4, ⟨rfl, rfl⟩ | ⟨rfl, q3, O, b2, b3, h5, h6, h7, ⟨rfl, rfl, rfl⟩ | ⟨hq, q4, q5, q6, q7, T, h8, ⟨q8, rfl⟩ | ⟨q8, q9, q10, q11, L, h9, ⟨q12, rfl⟩ | ⟨q12, v, b, h10, q13, q14, q15, q16, rfl⟩⟩⟩⟩⟩
 iterate 4
  ·go_wp2_with (first | (go_at_call 67; (with_reducible first | refine (h1 _).mono ?_ | refine (h3 _).mono ?_ | refine (h5 _).mono ?_); rintro e w' ⟨rfl, n1, rfl⟩) | (go_at_call 53; refine (h2 _).mono ?_; rintro e w' ⟨rfl, n2, rfl⟩) | (go_at_call 93; (with_reducible first | refine (h4 _).mono ?_ | refine (h6 _).mono ?_ | refine (h7 _).mono ?_); rintro e w' ⟨rfl, n3, rfl⟩))
   refine bodyPost_ret (results_ct rfl _ _ w.heap.size 51 #[.int .i64 0, .int .i64 0, .int .i64 0, .string ⟨#[]⟩, .string ⟨#[]⟩] (0, 0) _ rfl (blk_set (blk_set (blk_set (blk_set (blk_set (blk_drewN HBK.out _) 0 _) 1 _) 2 _) 3 _) 4 _) Tryz.underlying51 rfl (by kernel_rfl)) rfl ?_
   exact ⟨rfl, (((((pw_below_drewN HB.out _).setCell (Nat.le_refl _) _).setCell (Nat.le_refl _) _).setCell (Nat.le_refl _) _).setCell (Nat.le_refl _) _).setCell (Nat.le_refl _) _⟩
 all_goals
  rcases hq with rfl | ⟨rfl, rfl⟩
 iterate 4
  ·go_wp2_with (first | (go_at_call 67; (with_reducible first | refine (h1 _).mono ?_ | refine (h3 _).mono ?_ | refine (h5 _).mono ?_); rintro e w' ⟨rfl, n1, rfl⟩) | (go_at_call 53; refine (h2 _).mono ?_; rintro e w' ⟨rfl, n2, rfl⟩) | (go_at_call 93; (with_reducible first | refine (h4 _).mono ?_ | refine (h6 _).mono ?_ | refine (h7 _).mono ?_); rintro e w' ⟨rfl, n3, rfl⟩) | (go_at_call 94; (with_reducible first | refine (h8 _).mono ?_ | refine (h9 _).mono ?_); rintro e w' ⟨rfl, n4, rfl⟩) | (go_at_call 96; refine (h10 _).mono ?_; rintro e w9 ⟨rfl, hb9⟩; have hbk := blk_below (blk_drewN HBK.out _) hb9; have y0 := (blk_cell hbk 0).trans (show _ = some (Value.int .i64 0) from rfl); have f0 := blk_frozen hbk 0; have y1 := (blk_cell hbk 1).trans (show _ = some (Value.int .i64 0) from rfl); have f1 := blk_frozen hbk 1; have y2 := (blk_cell hbk 2).trans (show _ = some (Value.int .i64 0) from rfl); have f2 := blk_frozen hbk 2; have y3 := (blk_cell hbk 3).trans (show _ = some (Value.string ⟨#[]⟩) from rfl); have f3 := blk_frozen hbk 3; have y4 := (blk_cell hbk 4).trans (show _ = some (Value.string ⟨#[]⟩) from rfl); have f4 := blk_frozen hbk 4; have HBK9 := Lib.hid hbk; have HB9 := Lib.hid (below_step (pw_below_drewN HB.out _) hb9); clear hbk hb9))
   refine bodyPost_ret (results_ct rfl _ _ w.heap.size 51 #[.int .i64 0, .int .i64 0, .int .i64 0, .string ⟨#[]⟩, .string ⟨#[]⟩] (0, 0) _ rfl (blk_set (blk_set (blk_set (blk_set (blk_set (blk_drewN HBK.out _) 0 _) 1 _) 2 _) 3 _) 4 _) Tryz.underlying51 rfl (by kernel_rfl)) rfl ?_
   exact ⟨rfl, (((((pw_below_drewN HB.out _).setCell (Nat.le_refl _) _).setCell (Nat.le_refl _) _).setCell (Nat.le_refl _) _).setCell (Nat.le_refl _) _).setCell (Nat.le_refl _) _⟩
 all_goals
  go_wp2_with (first | (go_at_call 67; (with_reducible first | refine (h1 _).mono ?_ | refine (h3 _).mono ?_ | refine (h5 _).mono ?_); rintro e w' ⟨rfl, n1, rfl⟩) | (go_at_call 53; refine (h2 _).mono ?_; rintro e w' ⟨rfl, n2, rfl⟩) | (go_at_call 93; (with_reducible first | refine (h4 _).mono ?_ | refine (h6 _).mono ?_ | refine (h7 _).mono ?_); rintro e w' ⟨rfl, n3, rfl⟩) | (go_at_call 94; (with_reducible first | refine (h8 _).mono ?_ | refine (h9 _).mono ?_); rintro e w' ⟨rfl, n4, rfl⟩) | (go_at_call 96; refine (h10 _).mono ?_; rintro e w9 ⟨rfl, hb9⟩; have hbk := blk_below (blk_drewN HBK.out _) hb9; have y0 := (blk_cell hbk 0).trans (show _ = some (Value.int .i64 0) from rfl); have f0 := blk_frozen hbk 0; have y1 := (blk_cell hbk 1).trans (show _ = some (Value.int .i64 0) from rfl); have f1 := blk_frozen hbk 1; have y2 := (blk_cell hbk 2).trans (show _ = some (Value.int .i64 0) from rfl); have f2 := blk_frozen hbk 2; have y3 := (blk_cell hbk 3).trans (show _ = some (Value.string ⟨#[]⟩) from rfl); have f3 := blk_frozen hbk 3; have y4 := (blk_cell hbk 4).trans (show _ = some (Value.string ⟨#[]⟩) from rfl); have f4 := blk_frozen hbk 4; have HBK9 := Lib.hid hbk; have HB9 := Lib.hid (below_step (pw_below_drewN HB.out _) hb9); clear hbk hb9))
  refine bodyPost_ret (results_ct rfl _ _ w.heap.size 51 #[.int .i64 2, .int .i64 F, .int .i64 (T + 1), .string (s.extract F.toNat E.toNat), .string v] (0, 0) _ rfl (blk_set (blk_set (blk_set (blk_set (blk_set HBK9.out 0 _) 1 _) 2 _) 3 _) 4 _) Tryz.underlying51 rfl (by kernel_rfl)) rfl ?_
  exact ⟨rfl, (((((HB9.out).setCell (Nat.le_refl _) _).setCell (Nat.le_refl _) _).setCell (Nat.le_refl _) _).setCell (Nat.le_refl _) _).setCell (Nat.le_refl _) _⟩
end Go.Proofs.YtlhhhlimjajnlaaGreat.P12
end
section
set_option linter.unusedVariables false
set_option linter.unusedSimpArgs false
namespace Go.Proofs.YtlhhhlimjajnlaaGreat.P12
open Go Go.RowKit Go.Proofs.YtlhhhlimjajnlaaGreat Go.Proofs.YtlhhhlimjajnlaaGreat.Q Go.Proofs.YtlhhhlimjajnlaaGreatW.PrintWords Go.Proofs.YtlhhhlimjajnlaaGreat.X Go.Proofs.YtlhhhlimjajnlaaGreat.P11
theorem skipC {s : ByteArray} (hs : s.size ≤ 65536) {a r : Int} (h : skipP s.data.toList a = r) : SkipC s a r := fun w => R1_Skip.calls 200000 s a r w (h ▸ skip_at s a hs _ (Nat.le_refl _))
theorem nameC {s : ByteArray} (hs : s.size ≤ 65536) {a r : Int} (h : nameEndP s.data.toList a = r) : NameC s a r := fun w => R1_NameEnd.calls 200000 s a r w (h ▸ name_at s a hs _ (Nat.le_refl _))
theorem begC {s t : ByteArray} {i : Int} (h0 : 0 ≤ i) (hi : i ≤ 4294967296) (ht : 0 < t.size) (hts : t.size ≤ 4294967296) {b : Bool} (h : standsB s i t = b) : BegC s i t b := fun w => R2_begins.calls s i t b w (h ▸ begins_f s t i h0 hi ht hts)
theorem findC {s t : ByteArray} {i : Int} (hs : s.size ≤ 65536) (h0 : 0 ≤ i) (hi : i ≤ (s.size : Int) + 1) (ht : 0 < t.size) (hts : t.size ≤ 4294967296) {r : Int} (h : findN s.data.toList t.data.toList i.toNat = r) : FindC s i t r := fun w => R2_find.calls 200000 s i t r w (h ▸ find_f s t i h0 hi (by omega) ht hts _ (by omega))
theorem decC {s : ByteArray} (hs : s.size ≤ 65536) {v : ByteArray} {b : Bool} (h : decR ⟨#[]⟩ s.data.toList = (v, b)) : DecC s v b := fun w => R2_decoded.calls 200000 s v b w (h ▸ decoded_f s (by omega) _ (by omega))
theorem wr64 {i : Int} (h0 : -4294967296 ≤ i) (h1 : i ≤ 4294967296) : IntKind.i64.wrap i = i := by rw [IntKind.wrap_i64]; omega
theorem attr_C (s : ByteArray) (a : Int) (hs : s.size ≤ 65536) (h0 : 0 ≤ a) (h1 : a ≤ (s.size : Int)) : ∃ R, C1 s a R ∧ AttrSame R (attrP s a) := by
 have hsz : s.data.toList.length = s.size := (Lib.size_eq s).symm
 unfold attrP
 obtain ⟨F, hF⟩ : ∃ F, skipP s.data.toList a = F := ⟨_, rfl⟩
 obtain ⟨E, hE⟩ : ∃ E, nameEndP s.data.toList F = E := ⟨_, rfl⟩
 obtain ⟨Q, hQ⟩ : ∃ Q, skipP s.data.toList E = Q := ⟨_, rfl⟩
 obtain ⟨O, hO⟩ : ∃ O, skipP s.data.toList (Q + 1) = O := ⟨_, rfl⟩
 have hF1 := skipP_in s.data.toList a (by omega) (by omega)
 rw [hF] at hF1
 have hE1 := nameEndP_in s.data.toList F (by omega) (by omega)
 rw [hE] at hE1
 have hQ1 := skipP_in s.data.toList E (by omega) (by omega)
 rw [hQ] at hQ1
 simp only [hF, hE, hQ, hO]
 by_cases c1 : F = a
 ·rw [if_pos c1]
  exact ⟨a0, ⟨F, E, skipC hs hF, nameC hs hE, .inl ⟨.inl (by simpa using c1), rfl⟩⟩, rfl⟩
 rw [if_neg c1]
 have d1 : (F == a) = false := beq_eq_false_iff_ne.2 c1
 by_cases c2 : E = F
 ·rw [if_pos c2]
  exact ⟨a0, ⟨F, E, skipC hs hF, nameC hs hE, .inl ⟨.inr ⟨d1, by simpa using c2⟩, rfl⟩⟩, rfl⟩
 have d2 : (E == F) = false := beq_eq_false_iff_ne.2 c2
 rw [if_neg c2]
 suffices h : ∃ R, C2 s F E R ∧ AttrSame R _ from h.elim fun R ⟨h, h'⟩ => ⟨R, ⟨F, E, skipC hs hF, nameC hs hE, .inr ⟨d1, d2, h⟩⟩, h'⟩
 by_cases c3 : standsB s Q ⟨#[61]⟩ = false
 ·rw [if_pos c3]
  exact ⟨a0, ⟨Q, _, skipC hs hQ, begC (by omega) (by omega) (by decide) (by decide) rfl, .inl ⟨c3, rfl⟩⟩, rfl⟩
 have c3' : standsB s Q ⟨#[61]⟩ = true := by simpa using c3
 have hr1 := stands_room s Q 61 (by omega) c3'
 have hO1 := skipP_in s.data.toList (Q + 1) (by omega) (by omega)
 rw [hO] at hO1
 rw [if_neg c3]
 suffices h : ∃ R, C3 s F E Q R ∧ AttrSame R _ from h.elim fun R ⟨h, h'⟩ => ⟨R, ⟨Q, _, skipC hs hQ, begC (by omega) (by omega) (by decide) (by decide) rfl, .inr ⟨c3', h⟩⟩, h'⟩
 by_cases c4 : standsB s O ⟨#[34]⟩ = false ∧ standsB s O ⟨#[39]⟩ = false
 ·rw [if_pos c4]
  exact ⟨a0, ⟨wr64 (by omega) (by omega), O, _, _, skipC hs hO, begC (by omega) (by omega) (by decide) (by decide) rfl, begC (by omega) (by omega) (by decide) (by decide) rfl, .inl ⟨c4.1, c4.2, rfl⟩⟩, rfl⟩
 have hb : standsB s O ⟨#[34]⟩ = true ∨ standsB s O ⟨#[34]⟩ = false ∧ standsB s O ⟨#[39]⟩ = true := by
  cases e : standsB s O ⟨#[34]⟩
  ·right; refine ⟨rfl, ?_⟩
   cases e' : standsB s O ⟨#[39]⟩
   ·exact absurd ⟨e, e'⟩ c4
   ·rfl
  ·exact .inl rfl
 have hO2 : O < (s.size : Int) := hb.elim (fun c => stands_room s O 34 (by omega) c) (fun c => stands_room s O 39 (by omega) c.2)
 rw [if_neg c4]
 suffices h : ∃ R, C4 s F E O R ∧ AttrSame R _ from h.elim fun R ⟨h, h'⟩ => ⟨R, ⟨wr64 (by omega) (by omega), O, _, _, skipC hs hO, begC (by omega) (by omega) (by decide) (by decide) rfl, begC (by omega) (by omega) (by decide) (by decide) rfl, .inr ⟨hb, h⟩⟩, h'⟩
 obtain ⟨Z, hZ⟩ : ∃ Z, s.extract O.toNat (O + 1).toNat = Z := ⟨_, rfl⟩
 have hZ' : partB s O (O + 1) = Z := hZ
 have hZs : Z.size = 1 := by rw [Lib.size_eq, ← hZ, Lib.extract_data, List.length_take, List.length_drop]; omega
 unfold C4
 rw [hZ, hZ']
 have hcf := cut_find s.data.toList Z.data.toList (O + 1).toNat
 obtain ⟨T, hT⟩ : ∃ T, findN s.data.toList Z.data.toList (O + 1).toNat = T := ⟨_, rfl⟩
 obtain ⟨c, hc⟩ : ∃ c, Lib.cut (s.data.toList.drop (O + 1).toNat) Z.data.toList = c := ⟨_, rfl⟩
 rw [hT, hc] at hcf
 rw [hc]
 have e0 : ((0 : Int) ≤ O) = True := eq_true (by omega)
 have e1 : (O ≤ O + 1) = True := eq_true (by omega)
 have e2 : (O + 1 ≤ (s.size : Int)) = True := eq_true (by omega)
 have hfT : FindC s (O + 1) Z T := findC hs (by omega) (by omega) (by omega) (by omega) hT
 by_cases c5 : T < 0
 ·have e5 : c.2.2 = false := by rw [hcf.1, decide_eq_false (by omega)]
  rw [if_pos e5]
  exact ⟨a0, ⟨e0, e1, e2, wr64 (by omega) (by omega), T, hfT, .inl ⟨eq_true c5, rfl⟩⟩, rfl⟩
 obtain ⟨hT1, hc1⟩ := hcf.2 (by omega)
 have hcl : (c.1.length : Int) ≤ (s.size : Int) - (O + 1) := by
  rw [hc1, List.length_take, List.length_drop]; omega
 have hraw : (s.extract (O + 1).toNat T.toNat).data.toList = c.1 := by
  rw [Lib.extract_data, hc1]; congr 1; omega
 obtain ⟨R, hR⟩ : ∃ R, s.extract (O + 1).toNat T.toNat = R := ⟨_, rfl⟩
 have hraw0 := hraw
 rw [hR] at hraw
 have hRs : R.size ≤ s.size := by rw [Lib.size_eq, hraw]; omega
 have e5 : ¬ c.2.2 = false := by rw [hcf.1, decide_eq_true (by omega)]; decide
 rw [if_neg e5]
 have hfi : (0 ≤ findN R.data.toList (⟨#[60]⟩ : ByteArray).data.toList (0 : Int).toNat) ↔ 0 ≤ Lib.indexByte c.1 60 := by
  unfold findN
  have : Lib.index (R.data.toList.drop (0 : Int).toNat) (⟨#[60]⟩ : ByteArray).data.toList = Lib.indexByte c.1 60 := by
   show Lib.index (R.data.toList.drop 0) [60] = _
   rw [List.drop_zero, Lib.index_one, hraw]
  rw [this]
  split
  ·omega
  ·constructor <;> intro _ <;> omega
 have hpre : ∀ L, findN R.data.toList (⟨#[60]⟩ : ByteArray).data.toList (0 : Int).toNat = L → FindC (s.extract (O + 1).toNat T.toNat) 0 ⟨#[60]⟩ L := fun L hL => by rw [hR]; exact findC (by omega) (by omega) (by omega) (by decide) (by decide) hL
 by_cases c6 : 0 ≤ Lib.indexByte c.1 60
 ·rw [if_pos c6]
  exact ⟨a0, ⟨e0, e1, e2, wr64 (by omega) (by omega), T, hfT, .inr ⟨eq_false c5, eq_true (by omega), eq_true (by omega), eq_true (by omega), _, hpre _ rfl, .inl ⟨eq_true (hfi.2 c6), rfl⟩⟩⟩, rfl⟩
 rw [if_neg c6]
 refine ⟨(2, F, T + 1, s.extract F.toNat E.toNat, (decR ⟨#[]⟩ R.data.toList).1, (decR ⟨#[]⟩ R.data.toList).2), ⟨e0, e1, e2, wr64 (by omega) (by omega), T, hfT, .inr ⟨eq_false c5, eq_true (by omega), eq_true (by omega), eq_true (by omega), _, hpre _ rfl, .inr ⟨eq_false (fun h => c6 (hfi.1 h)), _, _, by rw [hR]; exact decC (by omega) rfl, wr64 (by omega) (by omega), eq_true (by omega), eq_true (by omega), eq_true (by omega), rfl⟩⟩⟩, ?_⟩
 unfold decR
 rw [hraw]
 cases hd : dec c.1 with
 | none => rfl
 | some v =>
  have hv : (⟨#[]⟩ : ByteArray) ++ (⟨v.toArray⟩ : ByteArray) = ⟨v.toArray⟩ := by
   apply ByteArray.ext; apply Array.ext'; simp [ByteArray.data_append]
  refine ⟨?_, rfl, ?_⟩
  ·show [_] = [(⟨2, F, T + 1, partB s F E, (⟨#[]⟩ : ByteArray) ++ (⟨v.toArray⟩ : ByteArray)⟩ : Tok)]
   rw [hv, show T + 1 = O + (c.1.length : Int) + 2 from by omega]
  ·show _ = T + 1
   omega
theorem attr_c (s : ByteArray) (a : Int) (hs : s.size ≤ 65536) (h0 : 0 ≤ a) (h1 : a ≤ (s.size : Int)) : ∃ R, AttrSame R (attrP s a) ∧ ∀ w, Calls Tryz.prog 117 #[.string s, .int .i64 a] w fun e w' => Ret R e ∧ Below w.heap.size w w' := by
 obtain ⟨R, h, h'⟩ := attr_C s a hs h0 h1
 exact ⟨R, h', fun w => attr_go h w⟩
end Go.Proofs.YtlhhhlimjajnlaaGreat.P12
end
