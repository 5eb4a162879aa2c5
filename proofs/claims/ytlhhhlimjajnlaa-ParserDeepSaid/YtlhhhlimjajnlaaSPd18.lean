/- Parts of the proof of parserDeep_holds, kept and merged by a program of mine (wip/tools/slim.py) out of my texts: ParK ParM P13b P13c P13d P13e -/
import Derived.Sort.KeysCollected
import Derived.Test.YtlhhhlimjajnlaaSPd17
import Derived.Test.YtlhhhlimjajnlaaSPd14
import Derived.Test.YtlhhhlimjajnlaaSPd5
section
set_option linter.unusedVariables false
set_option linter.unusedSimpArgs false
namespace Go.Proofs.Ytlhhhlimjajnlaa.X
open Go Go.RowKit Go.Maps Go.Sort Go.Proofs.Ytlhhhlimjajnlaa Go.Proofs.Ytlhhhlimjajnlaa.Q Go.Proofs.YtlhhhlimjajnlaaW.PrintWords
theorem mem_onceP : ∀ (l : List (List UInt8)) (x : List UInt8), x ∈ onceP l ↔ x ∈ l
  | [], x => by simp [onceP]
  | a :: t, x => by
    unfold onceP
    by_cases h : t.contains a = true
    · rw [if_pos h, mem_onceP t x, List.mem_cons]
      constructor
      · exact Or.inr
      · rintro (rfl | h')
        · simpa using h
        · exact h'
    · rw [if_neg h, List.mem_cons, List.mem_cons, mem_onceP t x]
theorem nodup_onceP : ∀ l : List (List UInt8), (onceP l).Nodup
  | [] => List.nodup_nil
  | a :: t => by
    unfold onceP
    by_cases h : t.contains a = true
    · rw [if_pos h]; exact nodup_onceP t
    · rw [if_neg h, List.nodup_cons]
      refine ⟨fun hm => h ?_, nodup_onceP t⟩
      simpa using (mem_onceP t a).1 hm
theorem keysTo_all (p : PS) : keysTo p (p.n.zip p.s).length = (namesOf p).map Lit.string := by
  unfold keysTo namesOf
  rw [List.take_length]
  induction p.n.zip p.s with
  | nil => rfl
  | cons c t ih =>
    rw [List.filterMap_cons, List.filterMap_cons]
    by_cases h : c.1.f0 = 3
    · simp only [h, if_true]; exact ih
    · simp only [h, if_false, List.map_cons]; rw [ih]
theorem keys_are (ks : List (List UInt8)) (u : DataW Unit) : ∃ es, setOf u (ks.map Lit.string) = .map es ∧ es.Pairwise (fun p q => p.1 ≠ q.1) := tidy_setOf u _ (by
  intro x hx
  obtain ⟨s, _, rfl⟩ := List.mem_map.1 hx
  trivial)
theorem has_keys (ks : List (List UInt8)) (u : DataW Unit) (x : List UInt8) : has (setOf u (ks.map Lit.string)) (.string x) = ks.contains x := by
  rw [has_setOf u _ _ (by
    intro x hx
    obtain ⟨s, _, rfl⟩ := List.mem_map.1 hx
    trivial), Bool.eq_iff_iff, List.any_eq_true, List.contains_iff_mem]
  constructor
  · rintro ⟨y, hy, hs⟩
    obtain ⟨s, hs', rfl⟩ := List.mem_map.1 hy
    have : (s == x) = true := hs
    rw [← eq_of_beq this]; exact hs'
  · intro hx
    exact ⟨_, List.mem_map.2 ⟨x, hx, rfl⟩, by show (x == x) = true; exact beq_self_eq_true x⟩
theorem sorted_names {W : World} {mb cnt : Nat} {ks : List (List UInt8)} {u : DataW Unit} (h : W.ownsMap Try.prog 9 RI mb cnt (setOf u (ks.map Lit.string))) {ss : List (List UInt8)} (hp : ss.Perm (strKeys (setOf u (ks.map Lit.string)))) :
    (ss.mergeSort fun x y => decide (x ≤ y)) = sortedP ks ∧ ss.length = (sortedP ks).length := by
  obtain ⟨es, he, hpw⟩ := keys_are ks u
  obtain ⟨es', he', hk⟩ := h.keysOf
  have hes : es = es' := by rw [he] at he'; injection he'
  subst hes
  have hperm : (onceP ks).Perm (strKeys (setOf u (ks.map Lit.string))) := by
    rw [he]
    refine perm_strKeys hpw (fun q hq => ?_) (nodup_onceP ks) (fun x => ?_)
    · obtain ⟨v, hv⟩ := hk q hq
      obtain ⟨s, _, hs, _⟩ := WideMaps.string_of_keyOf (P := Try.prog) Try.underlying9 hv
      exact ⟨_, hs⟩
    · rw [← he, has_keys, List.contains_iff_mem, mem_onceP]
  have h2 := mergeSort_of_perm (hp.trans hperm.symm)
  refine ⟨h2, ?_⟩
  unfold sortedP
  rw [List.length_mergeSort]
  exact (hp.trans hperm.symm).length_eq
end Go.Proofs.Ytlhhhlimjajnlaa.X
end
section
set_option linter.unusedVariables false
set_option linter.unusedSimpArgs false
namespace Go.Proofs.Ytlhhhlimjajnlaa.X
open Go Go.RowKit Go.Maps Go.Sort Go.Proofs.Ytlhhhlimjajnlaa Go.Proofs.Ytlhhhlimjajnlaa.Q Go.Proofs.YtlhhhlimjajnlaaW.PrintWords
def numTo (p : PS) (names : List (List UInt8)) (k : Nat) : List Nod := ((p.n.zip p.s).take k).map (fun c => numbered names c.1 c.2) ++ p.n.drop k
theorem numTo_zero (p : PS) (names : List (List UInt8)) : numTo p names 0 = p.n := by simp [numTo]
theorem numTo_len (p : PS) (names : List (List UInt8)) (k : Nat) (hs : p.s.length = p.n.length) (hk : k ≤ p.n.length) : (numTo p names k).length = p.n.length := by
  simp [numTo, List.length_zip]; omega
theorem numTo_all (p : PS) (names : List (List UInt8)) (hs : p.s.length = p.n.length) : numTo p names p.n.length = (p.n.zip p.s).map fun c => numbered names c.1 c.2 := by
  unfold numTo
  rw [List.drop_length, List.append_nil, List.take_of_length_le (by rw [List.length_zip]; omega)]
theorem numTo_at (p : PS) (names : List (List UInt8)) (k : Nat) (hs : p.s.length = p.n.length) (hk : k < p.n.length) : (numTo p names k).getD k ⟨0, 0, 0, ⟨#[]⟩⟩ = p.n.getD k ⟨0, 0, 0, ⟨#[]⟩⟩ := by
  unfold numTo
  have hl : (((p.n.zip p.s).take k).map (fun c => numbered names c.1 c.2)).length = k := by
    rw [List.length_map, List.length_take, List.length_zip]; omega
  rw [List.getD_eq_getElem?_getD, List.getD_eq_getElem?_getD, List.getElem?_append_right (by omega), hl, Nat.sub_self, List.getElem?_drop, Nat.add_zero]
theorem numTo_succ (p : PS) (names : List (List UInt8)) (k : Nat) (hs : p.s.length = p.n.length) (hk : k < p.n.length) :
    numTo p names (k + 1) = (numTo p names k).set k (numbered names (p.n.getD k ⟨0, 0, 0, ⟨#[]⟩⟩) (p.s.getD k ⟨#[]⟩)) := by
  have hz : k < (p.n.zip p.s).length := by rw [List.length_zip]; omega
  have hl : (((p.n.zip p.s).take k).map (fun c => numbered names c.1 c.2)).length = k := by
    rw [List.length_map, List.length_take, List.length_zip]; omega
  unfold numTo
  rw [List.set_append_right _ _ (by omega), hl, Nat.sub_self, List.drop_eq_getElem_cons hk, List.set_cons_zero, List.take_succ_eq_append_getElem hz, List.map_append, List.append_assoc]
  congr 1
  rw [List.map_singleton, List.singleton_append, List.getElem_zip]
  simp only [List.getD_eq_getElem?_getD, List.getElem?_eq_getElem hk, List.getElem?_eq_getElem (show k < p.s.length by omega), Option.getD_some]
theorem numTo_skip (p : PS) (names : List (List UInt8)) (k : Nat) (hs : p.s.length = p.n.length) (hk : k < p.n.length) (h3 : (p.n.getD k ⟨0, 0, 0, ⟨#[]⟩⟩).f0 = 3) : numTo p names (k + 1) = numTo p names k := by
  rw [numTo_succ p names k hs hk]
  unfold numbered
  rw [if_pos h3, ← numTo_at p names k hs hk, List.getD_eq_getElem?_getD, List.getElem?_eq_getElem (by rw [numTo_len p names k hs (by omega)]; exact hk), Option.getD_some]
  exact List.set_getElem_self _
def J3 (w0 : World) (g nb bb mb tb cnt : Nat) (D : DataW Unit) (v1 v2 v3 vN : Value) (p : PS) (names : List (List UInt8)) (k : Nat) (W : World) : Prop :=
  W.cell? ⟨bb, 0, none⟩ = some (.pointer (some ⟨g, 0, none⟩)) ∧ W.cell? ⟨nb, 0, none⟩ = some (.map (some mb)) ∧ Bd w0 W g v1 v2 v3 { p with n := numTo p names k } ∧ W.ownsMap Try.prog 9 RI mb cnt D ∧
    W.heap[tb]? = some (.cells #[.slice none 0 0, .slice none 0 0] 26 (0, 0)) ∧ Kd.R Kd.string 9 W w0.heap.size (fun _ => True) vN (names.map bytesL)
theorem number_c {w0 W0 : World} {g nb bb mb tb ga gn c1 c2 cnt : Nat} {D : DataW Unit} {v3 vN : Value} {p : PS} {names : List (List UInt8)} (hl : p.n.length ≤ 1000000) (hs : p.s.length = p.n.length) (hx : ∀ s, s ∈ p.s → s.size ≤ maxLen) (hne : ∀ b, b = bb ∨ b = nb ∨ b = mb ∨ b = tb → b ≠ ga)
    (hnm : ∀ k, k < p.n.length → ¬ (p.n.getD k ⟨0, 0, 0, ⟨#[]⟩⟩).f0 = 3 → (p.s.getD k ⟨#[]⟩).data.toList ∈ names) (hD : ∀ j, j < names.length → ∀ z, D.atKey (.string (names.getD j [])) z = .lit (.int .i64 j))
    (h0 : J3 w0 g nb bb mb tb cnt D (.slice (some ⟨ga, 0, none⟩) p.n.length c1) (.slice (some ⟨gn, 0, none⟩) p.s.length c2) v3 vN p names 0 W0) :
    Calls Try.prog 27 #[.func (.func 31) #[] #[.pointer (some ⟨nb, 0, none⟩), .pointer (some ⟨bb, 0, none⟩)], .pointer (some ⟨bb, 0, none⟩)] W0 fun e w' => e = .returned (.tuple #[]) ∧ J3 w0 g nb bb mb tb cnt D (.slice (some ⟨ga, 0, none⟩) p.n.length c1) (.slice (some ⟨gn, 0, none⟩) p.s.length c2) v3 vN p names p.n.length w' := by
  refine each3_c (g := g) (bb := bb) (ga := ga) (c1 := c1) _ _ p.n (J3 w0 g nb bb mb tb cnt D (.slice (some ⟨ga, 0, none⟩) p.n.length c1) (.slice (some ⟨gn, 0, none⟩) p.s.length c2) v3 vN p names) hl ?_ ?_ ?_ ?_ ?_ h0
  · rintro k W ⟨j1, j2, j3, -⟩
    exact ⟨j1, j3.c0⟩
  · rintro k W ⟨j1, j2, j3, -⟩ hk
    have hlen := numTo_len p names k hs (by omega)
    have hC := (Kd.R_reads' j3.r1).2.2
    obtain ⟨ad, he, r0, r1, r2, r3⟩ := at_T33 hC (k : Int) (by omega) (by show (k : Int) < ((numTo p names k).length : Int); omega)
    cases he
    have hrd : rd_T33 (numTo p names k) (k : Int) = p.n.getD k ⟨0, 0, 0, ⟨#[]⟩⟩ := by
      rw [← numTo_at p names k hs hk]
      unfold rd_T33
      rw [Int.toNat_natCast, List.getD_eq_getElem?_getD, List.getD_eq_getElem?_getD, List.getElem?_eq_getElem (by omega)]; rfl
    have ea : (⟨ga, 0, none⟩ : Addr).add ((k : Int).toNat * 4) = ⟨ga, k * 4, none⟩ := by simp [Addr.add]; omega
    rw [show ({ p with n := numTo p names k } : PS).n = numTo p names k from rfl, hrd, ea] at r0 r1 r2 r3
    exact ⟨_, r0, r1, r2, r3⟩
  · rintro k W W' ⟨j1, j2, j3, j4, j5, j6⟩ hb
    have g1 := W.block_lt_of_cell? _ j1
    have g2 := W.block_lt_of_cell? _ j2
    have gr : W.grownBy W' none := ⟨hb.os, hb.tape, hb.output, hb.size, fun k hk _ => hb.block k hk⟩
    exact ⟨(hb.cell g1).trans j1, (hb.cell g2).trans j2, j3.below hb, j4.kept gr (by simp), blk_below j5 hb, Kd.R_below j6 hb⟩
  · rintro k W ⟨j1, j2, j3, j4, j5, j6⟩ hk h3
    exact ⟨j1, j2, by rw [numTo_skip p names k hs hk h3]; exact j3, j4, j5, j6⟩
  · rintro k W ⟨j1, j2, j3, j4, j5, j6⟩ hk h3
    have hlen := numTo_len p names k hs (by omega)
    have hC2 := (Kd.R_reads' j3.r2).2.2
    obtain ⟨ad2, he2, hcell⟩ := Kd.at_string hC2 (k : Int) (by omega) (by show (k : Int) < (p.s.length : Int); omega)
    cases he2
    have hS : rdOf ByteArray.empty p.s (k : Int) = p.s.getD k ⟨#[]⟩ := by
      unfold rdOf
      rw [Int.toNat_natCast, List.getD_eq_getElem?_getD, List.getD_eq_getElem?_getD, List.getElem?_eq_getElem (by omega)]; rfl
    have ea2 : (⟨gn, 0, none⟩ : Addr).add ((k : Int).toNat) = ⟨gn, k, none⟩ := by simp [Addr.add]; omega
    have hcell : W.cell? ⟨gn, k, none⟩ = some (.string (p.s.getD k ⟨#[]⟩)) := by rw [← hS, ← ea2]; exact hcell
    have hmem : p.s.getD k ⟨#[]⟩ ∈ p.s := by
      rw [List.getD_eq_getElem?_getD, List.getElem?_eq_getElem (by omega)]
      exact List.getElem_mem _
    have hC := (Kd.R_reads' j3.r1).2.2
    obtain ⟨ad, he, -, r1, -, -⟩ := at_T33 hC (k : Int) (by omega) (by show (k : Int) < ((numTo p names k).length : Int); omega)
    cases he
    have ea : (⟨ga, 0, none⟩ : Addr).add ((k : Int).toNat * 4) = ⟨ga, k * 4, none⟩ := by simp [Addr.add]; omega
    rw [ea] at r1
    obtain ⟨cells, hcells⟩ := Kd.R_typed j3.r1 ga (by simp [Value.ownBlock])
    have hin := hnm k hk h3
    obtain ⟨z, hz⟩ : ∃ z, names.idxOf (p.s.getD k ⟨#[]⟩).data.toList = z := ⟨_, rfl⟩
    have hzl : z < names.length := by rw [← hz]; exact List.idxOf_lt_length_of_mem hin
    have hzn : names.getD z [] = (p.s.getD k ⟨#[]⟩).data.toList := by
      rw [List.getD_eq_getElem?_getD, List.getElem?_eq_getElem hzl, Option.getD_some]
      subst hz
      exact List.getElem_idxOf _
    have hat := hD z hzl
    rw [hzn] at hat
    refine (do3_c (g := g) (gn := gn) (n2 := p.s.length) (c2 := c2) (ga := ga) (n1 := p.n.length) (c1 := c1) (z := (z : Int)) j2 j1 j3.c1 (by omega) hcell (hx _ hmem) j4 j3.c0 hk r1 (blk_frozen hcells _) hat).mono ?_
    rintro e w' ⟨rfl, n, rfl⟩
    obtain ⟨hr', hg'⟩ := node_set (Kd.R_drewN j3.r1 n) k (by exact hk) (z : Int)
    have hga : ∀ kk, (Value.slice (some ⟨ga, 0, none⟩) p.n.length c1).ownBlock = some kk → kk = ga := by
      intro kk hkk
      simp [Value.ownBlock] at hkk
      exact hkk.symm
    have hgne : some g ≠ some ga := fun e => j3.n1 (by rw [e]; simp [Value.ownBlock])
    have hap : ∀ {α : Type} {d' : Kd α} {e' b' : Nat} {ok' : Nat → Prop} {u : Value} {ys : List α}, d'.R e' W b' ok' u ys → e' ≠ 33 → ∀ kk, some ga = some kk → some kk ≠ u.ownBlock := by
      intro α d' e' b' ok' u ys hR hne' kk hkk
      injection hkk with hkk
      subst hkk
      exact rows_apart j3.r1 hR hne' ga (by simp [Value.ownBlock])
    have hbase : w0.heap.size ≤ ga := Kd.R_base j3.r1 ga (by simp [Value.ownBlock])
    have hnew : (numTo p names k).set k { (numTo p names k).getD k ⟨0, 0, 0, ⟨#[]⟩⟩ with f1 := (z : Int) } = numTo p names (k + 1) := by
      rw [numTo_succ p names k hs hk, numTo_at p names k hs hk]
      unfold numbered
      rw [if_neg h3, hz]
    refine ⟨rfl, ?_, ?_, ⟨?_, j3.ge, ?_, ?_, ?_, ?_⟩, ?_, ?_, ?_⟩
    · exact hg'.cell (a := ⟨bb, 0, none⟩) (by exact j1) (by intro e; injection e with e; exact hne bb (Or.inl rfl) e)
    · exact hg'.cell (a := ⟨nb, 0, none⟩) (by exact j2) (by intro e; injection e with e; exact hne nb (Or.inr (Or.inl rfl)) e)
    · exact blk_grown (blk_drewN j3.blk n) hg' hgne
    · rw [← hnew]; exact hr'
    · exact Kd.R_grown2 (Kd.R_drewN j3.r2 n) rfl hg' (hap j3.r2 (by decide))
    · exact Kd.R_grown2 (Kd.R_drewN j3.r3 n) rfl hg' (hap j3.r3 (by decide))
    · exact (pw_below_drewN j3.bel n).setCell (p := ⟨ga, k * 4 + 1, none⟩) hbase _
    · exact World.ownsMap.kept (show (W.drewN n).ownsMap Try.prog 9 RI mb cnt D from j4) hg' (by intro e; injection e with e; exact hne mb (Or.inr (Or.inr (Or.inl rfl))) e)
    · exact blk_grown (blk_drewN j5 n) hg' (by intro e; injection e with e; exact hne tb (Or.inr (Or.inr (Or.inr rfl))) e)
    · exact Kd.R_grown2 (Kd.R_drewN j6 n) rfl hg' (hap j6 (by decide))
theorem name_in (p : PS) (hs : p.s.length = p.n.length) (k : Nat) (hk : k < p.n.length) (h3 : ¬ (p.n.getD k ⟨0, 0, 0, ⟨#[]⟩⟩).f0 = 3) : (p.s.getD k ⟨#[]⟩).data.toList ∈ sortedP (namesOf p) := by
  unfold sortedP
  refine (List.mergeSort_perm _ _).mem_iff.2 ((mem_onceP _ _).2 ?_)
  unfold namesOf
  have hz : k < (p.n.zip p.s).length := by rw [List.length_zip]; omega
  refine List.mem_filterMap.2 ⟨(p.n.zip p.s)[k], List.getElem_mem hz, ?_⟩
  rw [List.getElem_zip]
  rw [List.getD_eq_getElem?_getD, List.getElem?_eq_getElem hk, Option.getD_some] at h3
  rw [List.getD_eq_getElem?_getD, List.getElem?_eq_getElem (show k < p.s.length by omega), Option.getD_some, if_neg h3]
end Go.Proofs.Ytlhhhlimjajnlaa.X
end
section
set_option linter.unusedVariables false
set_option linter.unusedSimpArgs false
namespace Go.Proofs.Ytlhhhlimjajnlaa.P13
open Go.RowKit Go.Proofs.Ytlhhhlimjajnlaa Go.Proofs.Ytlhhhlimjajnlaa.Q Go.Proofs.Ytlhhhlimjajnlaa.P11 Go.Proofs.Ytlhhhlimjajnlaa.P12 Go.Proofs.YtlhhhlimjajnlaaW.PrintWords Go.Proofs.Ytlhhhlimjajnlaa.X
def treeN (p : PS) : List Nod := (p.n.zip p.s).map fun c => numbered (sortedP (namesOf p)) c.1 c.2
theorem once_len : ∀ l : List (List UInt8), (onceP l).length ≤ l.length
  | [] => Nat.le_refl _
  | a :: t => by
    unfold onceP
    have := once_len t
    split
    · rw [List.length_cons]; omega
    · rw [List.length_cons, List.length_cons]; omega
theorem names_len (p : PS) : (sortedP (namesOf p)).length ≤ p.n.length := by
  unfold sortedP
  rw [List.length_mergeSort]
  refine Nat.le_trans (once_len _) ?_
  unfold namesOf
  refine Nat.le_trans (List.length_filterMap_le _ _) ?_
  rw [List.length_zip]; omega
theorem tree_is (p : PS) (h1 : p.wr = false) (h2 : p.o = []) (h3 : 0 < p.n.length) (h4 : p.dp = false) (h5 : p.n.length ≤ 1000) : treeP p = (((sortedP (namesOf p)).map bytesL, treeN p), 0) := by
  unfold treeP
  have := names_len p
  rw [if_neg (by rw [h1, h2]; simp; exact List.ne_nil_of_length_pos h3), if_neg (by rw [h4]; simp; omega)]; rfl
theorem step_sh (a : Int) (p : PS) (t : Tok) : X.stepT p (shT a t) = X.stepT p t := rfl
theorem fold_sh (a : Int) : ∀ (l : List Tok) (p : PS), (l.map (shT a)).foldl X.stepT p = l.foldl X.stepT p
  | [], p => rfl
  | t :: l, p => by rw [List.map_cons, List.foldl_cons, List.foldl_cons, step_sh, fold_sh a l]
end Go.Proofs.Ytlhhhlimjajnlaa.P13
end
section
set_option linter.unusedVariables false
set_option linter.unusedSimpArgs false
namespace Go.Proofs.Ytlhhhlimjajnlaa.P13
open Go.RowKit Go.Proofs.Ytlhhhlimjajnlaa Go.Proofs.Ytlhhhlimjajnlaa.Q Go.Proofs.Ytlhhhlimjajnlaa.P11 Go.Proofs.Ytlhhhlimjajnlaa.P12 Go.Proofs.YtlhhhlimjajnlaaW.PrintWords Go.Proofs.Ytlhhhlimjajnlaa.X
abbrev zzB : ByteArray := ⟨#[122, 122]⟩
abbrev noB : ByteArray := ⟨#[]⟩
abbrev rootN : Nod := ⟨1, 0, -1, noB⟩
def q0 : PS :=⟨[rootN], [zzB], [0], noB, false, false⟩
def upN (at_ : Int) (n : Nod) : Nod := { n with f2 := n.f2 + at_ }
def Pre (at_ : Nat) (pre : List Nod) (preS : List ByteArray) : Prop := (at_ = 1 ∧ pre = [rootN] ∧ preS = [zzB]) ∨ (at_ = 2 ∧ (∃ x, pre = [rootN, ⟨3, -1, 0, x⟩]) ∧ preS = [zzB, noB])
def NsB (a : Nat) (pre : List Nod) (preS : List ByteArray) (p q : PS) : Prop :=
  Pre a pre preS ∧ (∃ r rest, p.n = r :: rest ∧ r.f0 = 1 ∧ q.n = pre ++ ({ r with f2 := 0 } :: rest.map (upN a))) ∧ q.s = preS ++ p.s ∧ p.s.length = p.n.length ∧ q.o = 0 :: p.o.map (· + (a : Int)) ∧ q.x = p.x ∧ p.wr = false ∧ q.wr = false ∧ q.dp = false ∧ ∀ z, z ∈ p.o → 0 ≤ z
theorem topP_up (o : List Int) (a : Int) (h : o ≠ []) : topP (0 :: o.map (· + a)) = topP o + a := by
  rcases List.eq_nil_or_concat o with h' | ⟨pre, z, h'⟩
  · exact absurd h' h
  · rw [h', List.concat_eq_append, show (0 :: (pre ++ [z]).map (· + a)) = (0 :: pre.map (· + a)) ++ [z + a] from by simp]
    unfold topP
    rw [List.getLast?_concat, List.getLast?_concat]; rfl
theorem NsB.put {a : Nat} {pre : List Nod} {preS : List ByteArray} {p q : PS} (h : NsB a pre preS p q) (ho : p.o ≠ []) (k nm : Int) (v name : ByteArray) : NsB a pre preS (putP p k nm v name) (putP q k nm v name) := by
  obtain ⟨hp, ⟨r, rest, e1, e2, e3⟩, h3, h4, h5, h6, h7, h8, h9, h10⟩ := h
  refine ⟨hp, ⟨r, rest ++ [⟨k, nm, topP p.o, v⟩], ?_, e2, ?_⟩, ?_, ?_, h5, h6, h7, h8, h9, h10⟩
  · show p.n ++ _ = _; rw [e1]; rfl
  · show q.n ++ [⟨k, nm, topP q.o, v⟩] = _
    rw [e3, h5, topP_up _ _ ho, List.map_append, List.append_assoc]; rfl
  · show q.s ++ _ = preS ++ (p.s ++ _); rw [h3, List.append_assoc]
  · show (p.s ++ _).length = (p.n ++ _).length; rw [List.length_append, List.length_append, h4]; rfl
end Go.Proofs.Ytlhhhlimjajnlaa.P13
end
section
set_option linter.unusedVariables false
set_option linter.unusedSimpArgs false
namespace Go.Proofs.Ytlhhhlimjajnlaa.P13
open Go.RowKit Go.Proofs.Ytlhhhlimjajnlaa Go.Proofs.Ytlhhhlimjajnlaa.Q Go.Proofs.Ytlhhhlimjajnlaa.P11 Go.Proofs.Ytlhhhlimjajnlaa.P12 Go.Proofs.YtlhhhlimjajnlaaW.PrintWords Go.Proofs.Ytlhhhlimjajnlaa.X
theorem lexV_is (s : ByteArray) (l : List Tok) (h1 : s.size ≤ 65536) (h2 : validL s.data.toList = true) (h3 : lexO s = some l) : lexV s = (l, 0) := by
  unfold lexV
  rw [if_neg (by omega), if_neg (by rw [h2]; decide), h3]
end Go.Proofs.Ytlhhhlimjajnlaa.P13
end
section
set_option linter.unusedVariables false
set_option linter.unusedSimpArgs false
namespace Go.Proofs.Ytlhhhlimjajnlaa.P13
open Go.RowKit Go.Proofs.Ytlhhhlimjajnlaa Go.Proofs.Ytlhhhlimjajnlaa.Q Go.Proofs.Ytlhhhlimjajnlaa.P11 Go.Proofs.Ytlhhhlimjajnlaa.P12 Go.Proofs.YtlhhhlimjajnlaaW.PrintWords Go.Proofs.Ytlhhhlimjajnlaa.X
def ST (d : ByteArray) (f : PS → PS) : Prop := validL d.data.toList = true ∧ ∃ l, lexO d = some l ∧ ∀ p, l.foldl X.stepT p = f p
theorem st_app {d e : ByteArray} {f g : PS → PS} (hd : ST d f) (he : ST e g) (h6 : ∃ r, e.data.toList = 60 :: r) : ST (d ++ e) (fun p => g (f p)) := by
  obtain ⟨v1, l, h1, h2⟩ := hd
  obtain ⟨v2, m, h3, h4⟩ := he
  refine ⟨by rw [app_list, valid_append _ _ v1]; exact v2, l ++ m.map (shT d.size), lexO_app d e l m h1 h3 (.inl h6), fun p => ?_⟩
  rw [List.foldl_append, fold_sh, h2, h4]
def repB (s : ByteArray) : Nat → ByteArray
  | 0 => ⟨#[]⟩
  | n + 1 => repB s n ++ s
def iterF (f : PS → PS) : Nat → PS → PS
  | 0, p => p
  | n + 1, p => f (iterF f n p)
theorem st_nil : ST ⟨#[]⟩ (fun p => p) := ⟨by kernel_rfl, [], by kernel_rfl, fun p => rfl⟩
theorem st_rep {s : ByteArray} {f : PS → PS} (h : ST s f) (h6 : ∃ r, s.data.toList = 60 :: r) : ∀ n, ST (repB s n) (fun p => iterF f n p)
  | 0 => st_nil
  | n + 1 => st_app (f := fun p => iterF f n p) (g := f) (st_rep h h6 n) h h6
theorem rep_size (s : ByteArray) : ∀ n, (repB s n).size = n * s.size
  | 0 => by simp [repB]; rfl
  | n + 1 => by rw [repB, app_size, rep_size s n, Nat.add_mul, Nat.one_mul]
theorem st_parse {d : ByteArray} {f : PS → PS} (h : ST d f) (hs : d.size ≤ 65536) : parseV d = treeP (flushP (f psZero)) := by
  obtain ⟨v, l, h1, h2⟩ := h
  have := lexV_is d l hs v h1
  unfold parseV
  rw [this, if_pos rfl, h2]
def eE : ByteArray := ⟨#[101]⟩
def eR : ByteArray := ⟨#[114]⟩
def oE : ByteArray := ⟨#[60, 101, 62]⟩
def cE : ByteArray := ⟨#[60, 47, 101, 62]⟩
def sE : ByteArray := ⟨#[60, 101, 47, 62]⟩
def oR : ByteArray := ⟨#[60, 114, 62]⟩
def cR : ByteArray := ⟨#[60, 47, 114, 62]⟩
def openF (n : ByteArray) (p : PS) : PS := [(⟨1, 0, 2, n, noB⟩ : Tok), ⟨3, 2, 3, noB, noB⟩].foldl X.stepT p
def closeF (n : ByteArray) (p : PS) : PS := [(⟨5, 0, 4, n, noB⟩ : Tok)].foldl X.stepT p
def leafF (n : ByteArray) (p : PS) : PS := [(⟨1, 0, 2, n, noB⟩ : Tok), ⟨4, 2, 4, noB, noB⟩].foldl X.stepT p
theorem st_oE : ST oE (openF eE) := ⟨by kernel_rfl, _, (by kernel_rfl : lexO oE = some [⟨1, 0, 2, eE, noB⟩, ⟨3, 2, 3, noB, noB⟩]), fun p => rfl⟩
theorem st_cE : ST cE (closeF eE) := ⟨by kernel_rfl, _, (by kernel_rfl : lexO cE = some [⟨5, 0, 4, eE, noB⟩]), fun p => rfl⟩
theorem st_sE : ST sE (leafF eE) := ⟨by kernel_rfl, _, (by kernel_rfl : lexO sE = some [⟨1, 0, 2, eE, noB⟩, ⟨4, 2, 4, noB, noB⟩]), fun p => rfl⟩
theorem st_oR : ST oR (openF eR) := ⟨by kernel_rfl, _, (by kernel_rfl : lexO oR = some [⟨1, 0, 2, eR, noB⟩, ⟨3, 2, 3, noB, noB⟩]), fun p => rfl⟩
theorem st_cR : ST cR (closeF eR) := ⟨by kernel_rfl, _, (by kernel_rfl : lexO cR = some [⟨5, 0, 4, eR, noB⟩]), fun p => rfl⟩
theorem b_oE : ∃ r, oE.data.toList = 60 :: r := ⟨_, rfl⟩
theorem b_cE : ∃ r, cE.data.toList = 60 :: r := ⟨_, rfl⟩
theorem b_sE : ∃ r, sE.data.toList = 60 :: r := ⟨_, rfl⟩
theorem b_cR : ∃ r, cR.data.toList = 60 :: r := ⟨_, rfl⟩
theorem b_rep {s : ByteArray} (h : ∃ r, s.data.toList = 60 :: r) : ∀ n, 0 < n → ∃ r, (repB s n).data.toList = 60 :: r
  | 1, _ => by obtain ⟨r, hr⟩ := h; exact ⟨r, by rw [repB, app_list, hr]; rfl⟩
  | n + 2, _ => by
    obtain ⟨r, hr⟩ := b_rep h (n + 1) (by omega)
    exact ⟨_, by rw [repB, app_list, hr]; rfl⟩
def deepF (n : Nat) : PS := flushP (iterF (closeF eE) n (iterF (openF eE) n psZero))
def deepC (n : Nat) : Bool := !(deepF n).wr && ((deepF n).o.isEmpty && (decide (0 < (deepF n).n.length) && (((deepF n).dp == decide (65 < n)) && decide ((deepF n).n.length ≤ 1000))))
theorem deep_all : ((List.range 10).all fun i => deepC (60 + i)) = true := by kernel_rfl
theorem deep_v (n : Nat) (h0 : 60 ≤ n) (h1 : n ≤ 69) : (parseV (repB oE n ++ repB cE n)).2 = if n ≤ 65 then 0 else 18 := by
  have hst := st_app (st_rep st_oE b_oE n) (st_rep st_cE b_cE n) (b_rep b_cE n (by omega))
  have hsz : (repB oE n ++ repB cE n).size ≤ 65536 := by
    rw [app_size, rep_size, rep_size, show oE.size = 3 from rfl, show cE.size = 4 from rfl]; omega
  rw [st_parse hst hsz]
  have hc := List.all_eq_true.1 deep_all (n - 60) (List.mem_range.2 (by omega))
  rw [show 60 + (n - 60) = n from by omega] at hc
  unfold deepC at hc
  show (treeP (deepF n)).2 = _
  generalize deepF n = F at hc
  simp only [Bool.and_eq_true, Bool.not_eq_true', decide_eq_true_eq, beq_iff_eq, List.isEmpty_iff] at hc
  obtain ⟨c1, c2, c3, c4, c5⟩ := hc
  by_cases h : n ≤ 65
  · rw [if_pos h, tree_is F c1 c2 c3 (by rw [c4]; simp; omega) c5]
  · rw [if_neg h]
    unfold treeP
    rw [if_neg (by rw [c1, c2]; simp; exact List.ne_nil_of_length_pos c3), if_pos (.inl (by rw [c4]; simp; omega))]
def rootN1 : Nod := ⟨1, 0, -1, ⟨#[]⟩⟩
def leafN : Nod := ⟨1, 0, 0, ⟨#[]⟩⟩
def wideP (m : Nat) : PS := ⟨rootN1 :: List.replicate m leafN, eR :: List.replicate m eE, [0], ⟨#[]⟩, false, false⟩
theorem wide_0 : openF eR psZero = wideP 0 := by kernel_rfl
theorem wide_s (m : Nat) : leafF eE (wideP m) = wideP (m + 1) := by
  have hl : (rootN1 :: List.replicate m leafN).length = m + 1 := by simp
  have hs : (eR :: List.replicate m eE).length = m + 1 := by simp
  have e0 : flushP (wideP m) = wideP m := by unfold flushP wideP; rw [if_pos rfl]
  have e1 : beginP (wideP m) eE = ⟨(rootN1 :: List.replicate m leafN) ++ [leafN], (eR :: List.replicate m eE) ++ [eE], [0] ++ [((m + 1 : Nat) : Int)], ⟨#[]⟩, false, false⟩ := by
    unfold beginP
    rw [e0]
    unfold putP wideP
    simp only [hl]
    rfl
  have e2 : X.stepT (wideP m) ⟨1, 0, 2, eE, noB⟩ = beginP (wideP m) eE := rfl
  show X.stepT (X.stepT (wideP m) ⟨1, 0, 2, eE, noB⟩) ⟨4, 2, 4, noB, noB⟩ = _
  rw [e2, e1]
  show endP _ _ = _
  unfold endP
  have t1 : topP ([0] ++ [((m + 1 : Nat) : Int)]) = ((m + 1 : Nat) : Int) := by unfold topP; simp
  have e3 : ∀ (a : List Nod) (b : List ByteArray) (o : List Int), flushP ⟨a, b, o, ⟨#[]⟩, false, false⟩ = ⟨a, b, o, ⟨#[]⟩, false, false⟩ := fun a b o => by unfold flushP; rw [if_pos rfl]
  simp only [e3, t1]
  rw [if_neg]
  · unfold wideP
    congr 1
    · rw [List.cons_append, ← List.replicate_succ']
    · rw [List.cons_append, ← List.replicate_succ']
  · intro h
    rcases h with h | h
    · omega
    · exact h trivial
theorem wide_i (m : Nat) : iterF (leafF eE) m (wideP 0) = wideP m := by
  induction m with
  | zero => rfl
  | succ m ih => rw [iterF, ih, wide_s]
def wideE (m : Nat) : PS := ⟨rootN1 :: List.replicate m leafN, eR :: List.replicate m eE, [], ⟨#[]⟩, false, false⟩
theorem wide_e (m : Nat) : flushP (closeF eR (wideP m)) = wideE m := by
  have e0 : flushP (wideP m) = wideP m := by unfold flushP wideP; rw [if_pos rfl]
  show flushP (endP (wideP m) eR) = _
  unfold endP
  rw [e0]
  simp only
  rw [if_neg]
  · unfold flushP wideP wideE; rw [if_pos rfl]; rfl
  · intro h
    rcases h with h | h
    · exact absurd h (by show ¬ (0 : Int) < 0; omega)
    · exact h rfl
theorem wide_fl (m : Nat) : (wideE m).wr = false ∧ (wideE m).o = [] ∧ (wideE m).dp = false ∧ (wideE m).n.length = m + 1 ∧ (wideE m).s.length = m + 1 := ⟨rfl, rfl, rfl, by unfold wideE; simp, by unfold wideE; simp⟩
theorem wide_tree (m : Nat) : treeP (wideE m) = if 5000 < m + 1 ∨ 1000 < (sortedP (namesOf (wideE m))).length then (([], []), 18) else (((sortedP (namesOf (wideE m))).map bytesL, ((wideE m).n.zip (wideE m).s).map fun c => numbered (sortedP (namesOf (wideE m))) c.1 c.2), 0) := by
  obtain ⟨h1, h2, h3, h4, h5⟩ := wide_fl m
  unfold treeP
  rw [h1, h2, h3, h4, if_neg (by simp)]
  simp only [Bool.false_eq_true, false_or]
theorem once_rep (b : List UInt8) : ∀ m, (onceP (List.replicate m b)).length ≤ 1
  | 0 => by simp [onceP]
  | m + 1 => by
    rw [List.replicate_succ, onceP]
    split
    · exact once_rep b m
    · rename_i h
      cases m with
      | zero => simp [onceP]
      | succ m => exact absurd (by simp [List.replicate_succ]) h
theorem names_wide (m : Nat) : namesOf (wideE m) = [114] :: List.replicate m [101] := by
  unfold namesOf wideE
  have hz : ∀ k, (List.replicate k leafN).zip (List.replicate k eE) = List.replicate k (leafN, eE) := fun k => by
    induction k with
    | zero => rfl
    | succ k ih => rw [List.replicate_succ, List.replicate_succ, List.replicate_succ, List.zip_cons_cons, ih]
  simp only [List.zip_cons_cons]
  rw [hz, List.filterMap_cons, if_neg (by decide)]
  simp only
  congr 1
  induction m with
  | zero => rfl
  | succ m ih => rw [List.replicate_succ, List.filterMap_cons, if_neg (by decide), List.replicate_succ]; simp only; rw [ih]; rfl
theorem names_few (m : Nat) : (sortedP (namesOf (wideE m))).length ≤ 1000 := by
  unfold sortedP
  rw [List.length_mergeSort, names_wide, onceP]
  have := once_rep [101] m
  split <;> (try rw [List.length_cons]) <;> omega
def wideD (m : Nat) : ByteArray := oR ++ repB sE m ++ cR
theorem wide_size (m : Nat) : (wideD m).size = 4 * m + 7 := by
  unfold wideD
  rw [app_size, app_size, rep_size, show oR.size = 3 from rfl, show cR.size = 4 from rfl, show sE.size = 4 from rfl]; omega
theorem wide_v (m : Nat) (h0 : 1 ≤ m) (h1 : m ≤ 10000) : parseV (wideD m) = treeP (wideE m) := by
  have hst := st_app (st_app st_oR (st_rep st_sE b_sE m) (b_rep b_sE m h0)) st_cR b_cR
  have := st_parse hst (by have := wide_size m; unfold wideD at this; omega)
  unfold wideD
  rw [this, wide_0, wide_i, wide_e]
theorem wide_in (m : Nat) (h0 : 1 ≤ m) (h1 : m ≤ 4999) : (parseV (wideD m)).2 = 0 ∧ (parseV (wideD m)).1.2.length = m + 1 := by
  obtain ⟨-, -, -, h4, h5⟩ := wide_fl m
  have hf := names_few m
  rw [wide_v m h0 (by omega), wide_tree, if_neg (by omega)]
  refine ⟨rfl, ?_⟩
  show (((wideE m).n.zip (wideE m).s).map _).length = _
  rw [List.length_map, List.length_zip]; omega
theorem wide_out (m : Nat) (h0 : 5000 ≤ m) (h1 : m ≤ 10000) : parseV (wideD m) = (([], []), 18) := by
  rw [wide_v m (by omega) h1, wide_tree, if_pos (by omega)]
end Go.Proofs.Ytlhhhlimjajnlaa.P13
end
