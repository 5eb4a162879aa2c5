/- Parts of the proof of canonParsed_holds, kept and merged by a program of mine (wip/tools/slim.py) out of my texts: ParK ParM -/
import Derived.Sort.KeysCollected
import Derived.Test.YtlhhhlimjajnlaaGreatSPd12
section
set_option linter.unusedVariables false
set_option linter.unusedSimpArgs false
namespace Go.Proofs.YtlhhhlimjajnlaaGreat.X
open Go Go.RowKit Go.Maps Go.Sort Go.Proofs.YtlhhhlimjajnlaaGreat Go.Proofs.YtlhhhlimjajnlaaGreat.Q Go.Proofs.YtlhhhlimjajnlaaGreatW.PrintWords
theorem mem_onceP : ∀ (l : List (List UInt8)) (x : List UInt8), x ∈ onceP l ↔ x ∈ l
 | [], x => by simp [onceP]
 | a :: t, x => by
  unfold onceP
  by_cases h : t.contains a = true
  ·rw [if_pos h, mem_onceP t x, List.mem_cons]
   constructor
   ·exact Or.inr
   ·rintro (rfl | h')
    ·simpa using h
    ·exact h'
  ·rw [if_neg h, List.mem_cons, List.mem_cons, mem_onceP t x]
theorem nodup_onceP : ∀ l : List (List UInt8), (onceP l).Nodup
 | [] => List.nodup_nil
 | a :: t => by
  unfold onceP
  by_cases h : t.contains a = true
  ·rw [if_pos h]; exact nodup_onceP t
  ·rw [if_neg h, List.nodup_cons]
   refine ⟨fun hm => h ?_, nodup_onceP t⟩
   simpa using (mem_onceP t a).1 hm
theorem keysTo_all (p : PS) : keysTo p (p.n.zip p.s).length = (namesOf p).map Lit.string := by
 unfold keysTo namesOf
 rw [List.take_length]
 induction p.n.zip p.s with
 | nil => rfl
 | cons c t ih =>
  rw [List.filterMap_cons, List.filterMap_cons]
  by_cases h : c.1.f0 = 3
  ·simp only [h, if_true]; exact ih
  ·simp only [h, if_false, List.map_cons]; rw [ih]
theorem keys_are (ks : List (List UInt8)) (u : DataW Unit) : ∃ es, setOf u (ks.map Lit.string) = .map es ∧ es.Pairwise (fun p q => p.1 ≠ q.1) := tidy_setOf u _ (by
 intro x hx
 obtain ⟨s, _, rfl⟩ := List.mem_map.1 hx
 trivial)
theorem has_keys (ks : List (List UInt8)) (u : DataW Unit) (x : List UInt8) : has (setOf u (ks.map Lit.string)) (.string x) = ks.contains x := by
 rw [has_setOf u _ _ (by
  intro x hx
  obtain ⟨s, _, rfl⟩ := List.mem_map.1 hx
  trivial), Bool.eq_iff_iff, List.any_eq_true, List.contains_iff_mem]
 constructor
 ·rintro ⟨y, hy, hs⟩
  obtain ⟨s, hs', rfl⟩ := List.mem_map.1 hy
  have : (s == x) = true := hs
  rw [← eq_of_beq this]; exact hs'
 ·intro hx
  exact ⟨_, List.mem_map.2 ⟨x, hx, rfl⟩, by show (x == x) = true; exact beq_self_eq_true x⟩
theorem sorted_names {W : World} {mb cnt : Nat} {ks : List (List UInt8)} {u : DataW Unit} (h : W.ownsMap Tryz.prog 9 RI mb cnt (setOf u (ks.map Lit.string))) {ss : List (List UInt8)} (hp : ss.Perm (strKeys (setOf u (ks.map Lit.string)))) :
 (ss.mergeSort fun x y => decide (x ≤ y)) = sortedP ks ∧ ss.length = (sortedP ks).length := by
 obtain ⟨es, he, hpw⟩ := keys_are ks u
 obtain ⟨es', he', hk⟩ := h.keysOf
 have hes : es = es' := by rw [he] at he'; injection he'
 subst hes
 have hperm : (onceP ks).Perm (strKeys (setOf u (ks.map Lit.string))) := by
  rw [he]
  refine perm_strKeys hpw (fun q hq => ?_) (nodup_onceP ks) (fun x => ?_)
  ·obtain ⟨v, hv⟩ := hk q hq
   obtain ⟨s, _, hs, _⟩ := WideMaps.string_of_keyOf (P := Tryz.prog) Tryz.underlying9 hv
   exact ⟨_, hs⟩
  ·rw [← he, has_keys, List.contains_iff_mem, mem_onceP]
 have h2 := mergeSort_of_perm (hp.trans hperm.symm)
 refine ⟨h2, ?_⟩
 unfold sortedP
 rw [List.length_mergeSort]
 exact (hp.trans hperm.symm).length_eq
def numTo (p : PS) (names : List (List UInt8)) (k : Nat) : List Nod := ((p.n.zip p.s).take k).map (fun c => numbered names c.1 c.2) ++ p.n.drop k
theorem numTo_zero (p : PS) (names : List (List UInt8)) : numTo p names 0 = p.n := by simp [numTo]
theorem numTo_len (p : PS) (names : List (List UInt8)) (k : Nat) (hs : p.s.length = p.n.length) (hk : k ≤ p.n.length) : (numTo p names k).length = p.n.length := by
 simp [numTo, List.length_zip]; omega
theorem numTo_all (p : PS) (names : List (List UInt8)) (hs : p.s.length = p.n.length) : numTo p names p.n.length = (p.n.zip p.s).map fun c => numbered names c.1 c.2 := by
 unfold numTo
 rw [List.drop_length, List.append_nil, List.take_of_length_le (by rw [List.length_zip]; omega)]
theorem numTo_at (p : PS) (names : List (List UInt8)) (k : Nat) (hs : p.s.length = p.n.length) (hk : k < p.n.length) : (numTo p names k).getD k ⟨0, 0, 0, ⟨#[]⟩⟩ = p.n.getD k ⟨0, 0, 0, ⟨#[]⟩⟩ := by
 unfold numTo
 have hl : (((p.n.zip p.s).take k).map (fun c => numbered names c.1 c.2)).length = k := by
  rw [List.length_map, List.length_take, List.length_zip]; omega
 rw [List.getD_eq_getElem?_getD, List.getD_eq_getElem?_getD, List.getElem?_append_right (by omega), hl, Nat.sub_self, List.getElem?_drop, Nat.add_zero]
theorem numTo_succ (p : PS) (names : List (List UInt8)) (k : Nat) (hs : p.s.length = p.n.length) (hk : k < p.n.length) :
 numTo p names (k + 1) = (numTo p names k).set k (numbered names (p.n.getD k ⟨0, 0, 0, ⟨#[]⟩⟩) (p.s.getD k ⟨#[]⟩)) := by
 have hz : k < (p.n.zip p.s).length := by rw [List.length_zip]; omega
 have hl : (((p.n.zip p.s).take k).map (fun c => numbered names c.1 c.2)).length = k := by
  rw [List.length_map, List.length_take, List.length_zip]; omega
 unfold numTo
 rw [List.set_append_right _ _ (by omega), hl, Nat.sub_self, List.drop_eq_getElem_cons hk, List.set_cons_zero, List.take_succ_eq_append_getElem hz, List.map_append, List.append_assoc]
 congr 1
 rw [List.map_singleton, List.singleton_append, List.getElem_zip]
 simp only [List.getD_eq_getElem?_getD, List.getElem?_eq_getElem hk, List.getElem?_eq_getElem (show k < p.s.length by omega), Option.getD_some]
theorem numTo_skip (p : PS) (names : List (List UInt8)) (k : Nat) (hs : p.s.length = p.n.length) (hk : k < p.n.length) (h3 : (p.n.getD k ⟨0, 0, 0, ⟨#[]⟩⟩).f0 = 3) : numTo p names (k + 1) = numTo p names k := by
 rw [numTo_succ p names k hs hk]
 unfold numbered
 rw [if_pos h3, ← numTo_at p names k hs hk, List.getD_eq_getElem?_getD, List.getElem?_eq_getElem (by rw [numTo_len p names k hs (by omega)]; exact hk), Option.getD_some]
 exact List.set_getElem_self _
def J3 (w0 : World) (g nb bb mb tb cnt : Nat) (D : DataW Unit) (v1 v2 v3 vN : Value) (p : PS) (names : List (List UInt8)) (k : Nat) (W : World) : Prop :=
 W.cell? ⟨bb, 0, none⟩ = some (.pointer (some ⟨g, 0, none⟩)) ∧ W.cell? ⟨nb, 0, none⟩ = some (.map (some mb)) ∧ Bd w0 W g v1 v2 v3 { p with n := numTo p names k } ∧ W.ownsMap Tryz.prog 9 RI mb cnt D ∧
  W.heap[tb]? = some (.cells #[.slice none 0 0, .slice none 0 0] 27 (0, 0)) ∧ Kd.R Kd.string 9 W w0.heap.size (fun _ => True) vN (names.map bytesL)
theorem number_c {w0 W0 : World} {g nb bb mb tb ga gn c1 c2 cnt : Nat} {D : DataW Unit} {v3 vN : Value} {p : PS} {names : List (List UInt8)} (hl : p.n.length ≤ 1000000) (hs : p.s.length = p.n.length) (hx : ∀ s, s ∈ p.s → s.size ≤ maxLen) (hne : ∀ b, b = bb ∨ b = nb ∨ b = mb ∨ b = tb → b ≠ ga)
 (hnm : ∀ k, k < p.n.length → ¬ (p.n.getD k ⟨0, 0, 0, ⟨#[]⟩⟩).f0 = 3 → (p.s.getD k ⟨#[]⟩).data.toList ∈ names) (hD : ∀ j, j < names.length → ∀ z, D.atKey (.string (names.getD j [])) z = .lit (.int .i64 j))
 (h0 : J3 w0 g nb bb mb tb cnt D (.slice (some ⟨ga, 0, none⟩) p.n.length c1) (.slice (some ⟨gn, 0, none⟩) p.s.length c2) v3 vN p names 0 W0) :
 Calls Tryz.prog 60 #[.func (.func 64) #[] #[.pointer (some ⟨nb, 0, none⟩), .pointer (some ⟨bb, 0, none⟩)], .pointer (some ⟨bb, 0, none⟩)] W0 fun e w' => e = .returned (.tuple #[]) ∧ J3 w0 g nb bb mb tb cnt D (.slice (some ⟨ga, 0, none⟩) p.n.length c1) (.slice (some ⟨gn, 0, none⟩) p.s.length c2) v3 vN p names p.n.length w' := by
 refine each3_c (g := g) (bb := bb) (ga := ga) (c1 := c1) _ _ p.n (J3 w0 g nb bb mb tb cnt D (.slice (some ⟨ga, 0, none⟩) p.n.length c1) (.slice (some ⟨gn, 0, none⟩) p.s.length c2) v3 vN p names) hl ?_ ?_ ?_ ?_ ?_ h0
 ·rintro k W ⟨j1, j2, j3, -⟩
  exact ⟨j1, j3.c0⟩
 ·rintro k W ⟨j1, j2, j3, -⟩ hk
  have hlen := numTo_len p names k hs (by omega)
  have hC := (Kd.R_reads' j3.r1).2.2
  obtain ⟨ad, he, r0, r1, r2, r3⟩ := at_T41 hC (k : Int) (by omega) (by show (k : Int) < ((numTo p names k).length : Int); omega)
  cases he
  have hrd : rd_T41 (numTo p names k) (k : Int) = p.n.getD k ⟨0, 0, 0, ⟨#[]⟩⟩ := by
   rw [← numTo_at p names k hs hk]
   unfold rd_T41
   rw [Int.toNat_natCast, List.getD_eq_getElem?_getD, List.getD_eq_getElem?_getD, List.getElem?_eq_getElem (by omega)]; rfl
  have ea : (⟨ga, 0, none⟩ : Addr).add ((k : Int).toNat * 4) = ⟨ga, k * 4, none⟩ := by simp [Addr.add]; omega
  rw [show ({ p with n := numTo p names k } : PS).n = numTo p names k from rfl, hrd, ea] at r0 r1 r2 r3
  exact ⟨_, r0, r1, r2, r3⟩
 ·rintro k W W' ⟨j1, j2, j3, j4, j5, j6⟩ hb
  have g1 := W.block_lt_of_cell? _ j1
  have g2 := W.block_lt_of_cell? _ j2
  have gr : W.grownBy W' none := ⟨hb.os, hb.tape, hb.output, hb.size, fun k hk _ => hb.block k hk⟩
  exact ⟨(hb.cell g1).trans j1, (hb.cell g2).trans j2, j3.below hb, j4.kept gr (by simp), blk_below j5 hb, Kd.R_below j6 hb⟩
 ·rintro k W ⟨j1, j2, j3, j4, j5, j6⟩ hk h3
  exact ⟨j1, j2, by rw [numTo_skip p names k hs hk h3]; exact j3, j4, j5, j6⟩
 ·rintro k W ⟨j1, j2, j3, j4, j5, j6⟩ hk h3
  have hlen := numTo_len p names k hs (by omega)
  have hC2 := (Kd.R_reads' j3.r2).2.2
  obtain ⟨ad2, he2, hcell⟩ := Kd.at_string hC2 (k : Int) (by omega) (by show (k : Int) < (p.s.length : Int); omega)
  cases he2
  have hS : rdOf ByteArray.empty p.s (k : Int) = p.s.getD k ⟨#[]⟩ := by
   unfold rdOf
   rw [Int.toNat_natCast, List.getD_eq_getElem?_getD, List.getD_eq_getElem?_getD, List.getElem?_eq_getElem (by omega)]; rfl
  have ea2 : (⟨gn, 0, none⟩ : Addr).add ((k : Int).toNat) = ⟨gn, k, none⟩ := by simp [Addr.add]; omega
  have hcell : W.cell? ⟨gn, k, none⟩ = some (.string (p.s.getD k ⟨#[]⟩)) := by rw [← hS, ← ea2]; exact hcell
  have hmem : p.s.getD k ⟨#[]⟩ ∈ p.s := by
   rw [List.getD_eq_getElem?_getD, List.getElem?_eq_getElem (by omega)]
   exact List.getElem_mem _
  have hC := (Kd.R_reads' j3.r1).2.2
  obtain ⟨ad, he, -, r1, -, -⟩ := at_T41 hC (k : Int) (by omega) (by show (k : Int) < ((numTo p names k).length : Int); omega)
  cases he
  have ea : (⟨ga, 0, none⟩ : Addr).add ((k : Int).toNat * 4) = ⟨ga, k * 4, none⟩ := by simp [Addr.add]; omega
  rw [ea] at r1
  obtain ⟨cells, hcells⟩ := Kd.R_typed j3.r1 ga (by simp [Value.ownBlock])
  have hin := hnm k hk h3
  obtain ⟨z, hz⟩ : ∃ z, names.idxOf (p.s.getD k ⟨#[]⟩).data.toList = z := ⟨_, rfl⟩
  have hzl : z < names.length := by rw [← hz]; exact List.idxOf_lt_length_of_mem hin
  have hzn : names.getD z [] = (p.s.getD k ⟨#[]⟩).data.toList := by
   rw [List.getD_eq_getElem?_getD, List.getElem?_eq_getElem hzl, Option.getD_some]
   subst hz
   exact List.getElem_idxOf _
  have hat := hD z hzl
  rw [hzn] at hat
  refine (do3_c (g := g) (gn := gn) (n2 := p.s.length) (c2 := c2) (ga := ga) (n1 := p.n.length) (c1 := c1) (z := (z : Int)) j2 j1 j3.c1 (by omega) hcell (hx _ hmem) j4 j3.c0 hk r1 (blk_frozen hcells _) hat).mono ?_
  rintro e w' ⟨rfl, n, rfl⟩
  obtain ⟨hr', hg'⟩ := node_set (Kd.R_drewN j3.r1 n) k (by exact hk) (z : Int)
  have hga : ∀ kk, (Value.slice (some ⟨ga, 0, none⟩) p.n.length c1).ownBlock = some kk → kk = ga := by
   intro kk hkk
   simp [Value.ownBlock] at hkk
   exact hkk.symm
  have hgne : some g ≠ some ga := fun e => j3.n1 (by rw [e]; simp [Value.ownBlock])
  have hap : ∀ {α : Type} {d' : Kd α} {e' b' : Nat} {ok' : Nat → Prop} {u : Value} {ys : List α}, d'.R e' W b' ok' u ys → e' ≠ 41 → ∀ kk, some ga = some kk → some kk ≠ u.ownBlock := by
   intro α d' e' b' ok' u ys hR hne' kk hkk
   injection hkk with hkk
   subst hkk
   exact rows_apart j3.r1 hR hne' ga (by simp [Value.ownBlock])
  have hbase : w0.heap.size ≤ ga := Kd.R_base j3.r1 ga (by simp [Value.ownBlock])
  have hnew : (numTo p names k).set k { (numTo p names k).getD k ⟨0, 0, 0, ⟨#[]⟩⟩ with f1 := (z : Int) } = numTo p names (k + 1) := by
   rw [numTo_succ p names k hs hk, numTo_at p names k hs hk]
   unfold numbered
   rw [if_neg h3, hz]
  refine ⟨rfl, ?_, ?_, ⟨?_, j3.ge, ?_, ?_, ?_, ?_⟩, ?_, ?_, ?_⟩
  ·exact hg'.cell (a := ⟨bb, 0, none⟩) (by exact j1) (by intro e; injection e with e; exact hne bb (Or.inl rfl) e)
  ·exact hg'.cell (a := ⟨nb, 0, none⟩) (by exact j2) (by intro e; injection e with e; exact hne nb (Or.inr (Or.inl rfl)) e)
  ·exact blk_grown (blk_drewN j3.blk n) hg' hgne
  ·rw [← hnew]; exact hr'
  ·exact Kd.R_grown2 (Kd.R_drewN j3.r2 n) rfl hg' (hap j3.r2 (by decide))
  ·exact Kd.R_grown2 (Kd.R_drewN j3.r3 n) rfl hg' (hap j3.r3 (by decide))
  ·exact (pw_below_drewN j3.bel n).setCell (p := ⟨ga, k * 4 + 1, none⟩) hbase _
  ·exact World.ownsMap.kept (show (W.drewN n).ownsMap Tryz.prog 9 RI mb cnt D from j4) hg' (by intro e; injection e with e; exact hne mb (Or.inr (Or.inr (Or.inl rfl))) e)
  ·exact blk_grown (blk_drewN j5 n) hg' (by intro e; injection e with e; exact hne tb (Or.inr (Or.inr (Or.inr rfl))) e)
  ·exact Kd.R_grown2 (Kd.R_drewN j6 n) rfl hg' (hap j6 (by decide))
theorem name_in (p : PS) (hs : p.s.length = p.n.length) (k : Nat) (hk : k < p.n.length) (h3 : ¬ (p.n.getD k ⟨0, 0, 0, ⟨#[]⟩⟩).f0 = 3) : (p.s.getD k ⟨#[]⟩).data.toList ∈ sortedP (namesOf p) := by
 unfold sortedP
 refine (List.mergeSort_perm _ _).mem_iff.2 ((mem_onceP _ _).2 ?_)
 unfold namesOf
 have hz : k < (p.n.zip p.s).length := by rw [List.length_zip]; omega
 refine List.mem_filterMap.2 ⟨(p.n.zip p.s)[k], List.getElem_mem hz, ?_⟩
 rw [List.getElem_zip]
 rw [List.getD_eq_getElem?_getD, List.getElem?_eq_getElem hk, Option.getD_some] at h3
 rw [List.getD_eq_getElem?_getD, List.getElem?_eq_getElem (show k < p.s.length by omega), Option.getD_some, if_neg h3]
end Go.Proofs.YtlhhhlimjajnlaaGreat.X
end
