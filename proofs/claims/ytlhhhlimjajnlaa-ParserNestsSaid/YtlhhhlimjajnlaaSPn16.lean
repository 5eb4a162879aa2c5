/- Parts of the proof of parserNests_holds, kept and merged by a program of mine (wip/tools/slim.py) out of my texts: ParK ParM P13b P13c P13d -/
import Derived.Sort.KeysCollected
import Derived.Test.YtlhhhlimjajnlaaSPn15
import Derived.Test.YtlhhhlimjajnlaaSPn14
import Derived.Test.YtlhhhlimjajnlaaSPn5
section
set_option linter.unusedVariables false
set_option linter.unusedSimpArgs false
namespace Go.Proofs.Ytlhhhlimjajnlaa.X
open Go Go.RowKit Go.Maps Go.Sort Go.Proofs.Ytlhhhlimjajnlaa Go.Proofs.Ytlhhhlimjajnlaa.Q Go.Proofs.YtlhhhlimjajnlaaW.PrintWords
theorem mem_onceP : ∀ (l : List (List UInt8)) (x : List UInt8), x ∈ onceP l ↔ x ∈ l
  | [], x => by simp [onceP]
  | a :: t, x => by
    unfold onceP
    by_cases h : t.contains a = true
    · rw [if_pos h, mem_onceP t x, List.mem_cons]
      constructor
      · exact Or.inr
      · rintro (rfl | h')
        · simpa using h
        · exact h'
    · rw [if_neg h, List.mem_cons, List.mem_cons, mem_onceP t x]
theorem nodup_onceP : ∀ l : List (List UInt8), (onceP l).Nodup
  | [] => List.nodup_nil
  | a :: t => by
    unfold onceP
    by_cases h : t.contains a = true
    · rw [if_pos h]; exact nodup_onceP t
    · rw [if_neg h, List.nodup_cons]
      refine ⟨fun hm => h ?_, nodup_onceP t⟩
      simpa using (mem_onceP t a).1 hm
theorem keysTo_all (p : PS) : keysTo p (p.n.zip p.s).length = (namesOf p).map Lit.string := by
  unfold keysTo namesOf
  rw [List.take_length]
  induction p.n.zip p.s with
  | nil => rfl
  | cons c t ih =>
    rw [List.filterMap_cons, List.filterMap_cons]
    by_cases h : c.1.f0 = 3
    · simp only [h, if_true]; exact ih
    · simp only [h, if_false, List.map_cons]; rw [ih]
theorem keys_are (ks : List (List UInt8)) (u : DataW Unit) : ∃ es, setOf u (ks.map Lit.string) = .map es ∧ es.Pairwise (fun p q => p.1 ≠ q.1) := tidy_setOf u _ (by
  intro x hx
  obtain ⟨s, _, rfl⟩ := List.mem_map.1 hx
  trivial)
theorem has_keys (ks : List (List UInt8)) (u : DataW Unit) (x : List UInt8) : has (setOf u (ks.map Lit.string)) (.string x) = ks.contains x := by
  rw [has_setOf u _ _ (by
    intro x hx
    obtain ⟨s, _, rfl⟩ := List.mem_map.1 hx
    trivial), Bool.eq_iff_iff, List.any_eq_true, List.contains_iff_mem]
  constructor
  · rintro ⟨y, hy, hs⟩
    obtain ⟨s, hs', rfl⟩ := List.mem_map.1 hy
    have : (s == x) = true := hs
    rw [← eq_of_beq this]; exact hs'
  · intro hx
    exact ⟨_, List.mem_map.2 ⟨x, hx, rfl⟩, by show (x == x) = true; exact beq_self_eq_true x⟩
theorem sorted_names {W : World} {mb cnt : Nat} {ks : List (List UInt8)} {u : DataW Unit} (h : W.ownsMap Try.prog 9 RI mb cnt (setOf u (ks.map Lit.string))) {ss : List (List UInt8)} (hp : ss.Perm (strKeys (setOf u (ks.map Lit.string)))) :
    (ss.mergeSort fun x y => decide (x ≤ y)) = sortedP ks ∧ ss.length = (sortedP ks).length := by
  obtain ⟨es, he, hpw⟩ := keys_are ks u
  obtain ⟨es', he', hk⟩ := h.keysOf
  have hes : es = es' := by rw [he] at he'; injection he'
  subst hes
  have hperm : (onceP ks).Perm (strKeys (setOf u (ks.map Lit.string))) := by
    rw [he]
    refine perm_strKeys hpw (fun q hq => ?_) (nodup_onceP ks) (fun x => ?_)
    · obtain ⟨v, hv⟩ := hk q hq
      obtain ⟨s, _, hs, _⟩ := WideMaps.string_of_keyOf (P := Try.prog) Try.underlying9 hv
      exact ⟨_, hs⟩
    · rw [← he, has_keys, List.contains_iff_mem, mem_onceP]
  have h2 := mergeSort_of_perm (hp.trans hperm.symm)
  refine ⟨h2, ?_⟩
  unfold sortedP
  rw [List.length_mergeSort]
  exact (hp.trans hperm.symm).length_eq
end Go.Proofs.Ytlhhhlimjajnlaa.X
end
section
set_option linter.unusedVariables false
set_option linter.unusedSimpArgs false
namespace Go.Proofs.Ytlhhhlimjajnlaa.X
open Go Go.RowKit Go.Maps Go.Sort Go.Proofs.Ytlhhhlimjajnlaa Go.Proofs.Ytlhhhlimjajnlaa.Q Go.Proofs.YtlhhhlimjajnlaaW.PrintWords
def numTo (p : PS) (names : List (List UInt8)) (k : Nat) : List Nod := ((p.n.zip p.s).take k).map (fun c => numbered names c.1 c.2) ++ p.n.drop k
theorem numTo_zero (p : PS) (names : List (List UInt8)) : numTo p names 0 = p.n := by simp [numTo]
theorem numTo_len (p : PS) (names : List (List UInt8)) (k : Nat) (hs : p.s.length = p.n.length) (hk : k ≤ p.n.length) : (numTo p names k).length = p.n.length := by
  simp [numTo, List.length_zip]; omega
theorem numTo_all (p : PS) (names : List (List UInt8)) (hs : p.s.length = p.n.length) : numTo p names p.n.length = (p.n.zip p.s).map fun c => numbered names c.1 c.2 := by
  unfold numTo
  rw [List.drop_length, List.append_nil, List.take_of_length_le (by rw [List.length_zip]; omega)]
theorem numTo_at (p : PS) (names : List (List UInt8)) (k : Nat) (hs : p.s.length = p.n.length) (hk : k < p.n.length) : (numTo p names k).getD k ⟨0, 0, 0, ⟨#[]⟩⟩ = p.n.getD k ⟨0, 0, 0, ⟨#[]⟩⟩ := by
  unfold numTo
  have hl : (((p.n.zip p.s).take k).map (fun c => numbered names c.1 c.2)).length = k := by
    rw [List.length_map, List.length_take, List.length_zip]; omega
  rw [List.getD_eq_getElem?_getD, List.getD_eq_getElem?_getD, List.getElem?_append_right (by omega), hl, Nat.sub_self, List.getElem?_drop, Nat.add_zero]
theorem numTo_succ (p : PS) (names : List (List UInt8)) (k : Nat) (hs : p.s.length = p.n.length) (hk : k < p.n.length) :
    numTo p names (k + 1) = (numTo p names k).set k (numbered names (p.n.getD k ⟨0, 0, 0, ⟨#[]⟩⟩) (p.s.getD k ⟨#[]⟩)) := by
  have hz : k < (p.n.zip p.s).length := by rw [List.length_zip]; omega
  have hl : (((p.n.zip p.s).take k).map (fun c => numbered names c.1 c.2)).length = k := by
    rw [List.length_map, List.length_take, List.length_zip]; omega
  unfold numTo
  rw [List.set_append_right _ _ (by omega), hl, Nat.sub_self, List.drop_eq_getElem_cons hk, List.set_cons_zero, List.take_succ_eq_append_getElem hz, List.map_append, List.append_assoc]
  congr 1
  rw [List.map_singleton, List.singleton_append, List.getElem_zip]
  simp only [List.getD_eq_getElem?_getD, List.getElem?_eq_getElem hk, List.getElem?_eq_getElem (show k < p.s.length by omega), Option.getD_some]
theorem numTo_skip (p : PS) (names : List (List UInt8)) (k : Nat) (hs : p.s.length = p.n.length) (hk : k < p.n.length) (h3 : (p.n.getD k ⟨0, 0, 0, ⟨#[]⟩⟩).f0 = 3) : numTo p names (k + 1) = numTo p names k := by
  rw [numTo_succ p names k hs hk]
  unfold numbered
  rw [if_pos h3, ← numTo_at p names k hs hk, List.getD_eq_getElem?_getD, List.getElem?_eq_getElem (by rw [numTo_len p names k hs (by omega)]; exact hk), Option.getD_some]
  exact List.set_getElem_self _
def J3 (w0 : World) (g nb bb mb tb cnt : Nat) (D : DataW Unit) (v1 v2 v3 vN : Value) (p : PS) (names : List (List UInt8)) (k : Nat) (W : World) : Prop :=
  W.cell? ⟨bb, 0, none⟩ = some (.pointer (some ⟨g, 0, none⟩)) ∧ W.cell? ⟨nb, 0, none⟩ = some (.map (some mb)) ∧ Bd w0 W g v1 v2 v3 { p with n := numTo p names k } ∧ W.ownsMap Try.prog 9 RI mb cnt D ∧
    W.heap[tb]? = some (.cells #[.slice none 0 0, .slice none 0 0] 26 (0, 0)) ∧ Kd.R Kd.string 9 W w0.heap.size (fun _ => True) vN (names.map bytesL)
theorem number_c {w0 W0 : World} {g nb bb mb tb ga gn c1 c2 cnt : Nat} {D : DataW Unit} {v3 vN : Value} {p : PS} {names : List (List UInt8)} (hl : p.n.length ≤ 1000000) (hs : p.s.length = p.n.length) (hx : ∀ s, s ∈ p.s → s.size ≤ maxLen) (hne : ∀ b, b = bb ∨ b = nb ∨ b = mb ∨ b = tb → b ≠ ga)
    (hnm : ∀ k, k < p.n.length → ¬ (p.n.getD k ⟨0, 0, 0, ⟨#[]⟩⟩).f0 = 3 → (p.s.getD k ⟨#[]⟩).data.toList ∈ names) (hD : ∀ j, j < names.length → ∀ z, D.atKey (.string (names.getD j [])) z = .lit (.int .i64 j))
    (h0 : J3 w0 g nb bb mb tb cnt D (.slice (some ⟨ga, 0, none⟩) p.n.length c1) (.slice (some ⟨gn, 0, none⟩) p.s.length c2) v3 vN p names 0 W0) :
    Calls Try.prog 27 #[.func (.func 31) #[] #[.pointer (some ⟨nb, 0, none⟩), .pointer (some ⟨bb, 0, none⟩)], .pointer (some ⟨bb, 0, none⟩)] W0 fun e w' => e = .returned (.tuple #[]) ∧ J3 w0 g nb bb mb tb cnt D (.slice (some ⟨ga, 0, none⟩) p.n.length c1) (.slice (some ⟨gn, 0, none⟩) p.s.length c2) v3 vN p names p.n.length w' := by
  refine each3_c (g := g) (bb := bb) (ga := ga) (c1 := c1) _ _ p.n (J3 w0 g nb bb mb tb cnt D (.slice (some ⟨ga, 0, none⟩) p.n.length c1) (.slice (some ⟨gn, 0, none⟩) p.s.length c2) v3 vN p names) hl ?_ ?_ ?_ ?_ ?_ h0
  · rintro k W ⟨j1, j2, j3, -⟩
    exact ⟨j1, j3.c0⟩
  · rintro k W ⟨j1, j2, j3, -⟩ hk
    have hlen := numTo_len p names k hs (by omega)
    have hC := (Kd.R_reads' j3.r1).2.2
    obtain ⟨ad, he, r0, r1, r2, r3⟩ := at_T33 hC (k : Int) (by omega) (by show (k : Int) < ((numTo p names k).length : Int); omega)
    cases he
    have hrd : rd_T33 (numTo p names k) (k : Int) = p.n.getD k ⟨0, 0, 0, ⟨#[]⟩⟩ := by
      rw [← numTo_at p names k hs hk]
      unfold rd_T33
      rw [Int.toNat_natCast, List.getD_eq_getElem?_getD, List.getD_eq_getElem?_getD, List.getElem?_eq_getElem (by omega)]; rfl
    have ea : (⟨ga, 0, none⟩ : Addr).add ((k : Int).toNat * 4) = ⟨ga, k * 4, none⟩ := by simp [Addr.add]; omega
    rw [show ({ p with n := numTo p names k } : PS).n = numTo p names k from rfl, hrd, ea] at r0 r1 r2 r3
    exact ⟨_, r0, r1, r2, r3⟩
  · rintro k W W' ⟨j1, j2, j3, j4, j5, j6⟩ hb
    have g1 := W.block_lt_of_cell? _ j1
    have g2 := W.block_lt_of_cell? _ j2
    have gr : W.grownBy W' none := ⟨hb.os, hb.tape, hb.output, hb.size, fun k hk _ => hb.block k hk⟩
    exact ⟨(hb.cell g1).trans j1, (hb.cell g2).trans j2, j3.below hb, j4.kept gr (by simp), blk_below j5 hb, Kd.R_below j6 hb⟩
  · rintro k W ⟨j1, j2, j3, j4, j5, j6⟩ hk h3
    exact ⟨j1, j2, by rw [numTo_skip p names k hs hk h3]; exact j3, j4, j5, j6⟩
  · rintro k W ⟨j1, j2, j3, j4, j5, j6⟩ hk h3
    have hlen := numTo_len p names k hs (by omega)
    have hC2 := (Kd.R_reads' j3.r2).2.2
    obtain ⟨ad2, he2, hcell⟩ := Kd.at_string hC2 (k : Int) (by omega) (by show (k : Int) < (p.s.length : Int); omega)
    cases he2
    have hS : rdOf ByteArray.empty p.s (k : Int) = p.s.getD k ⟨#[]⟩ := by
      unfold rdOf
      rw [Int.toNat_natCast, List.getD_eq_getElem?_getD, List.getD_eq_getElem?_getD, List.getElem?_eq_getElem (by omega)]; rfl
    have ea2 : (⟨gn, 0, none⟩ : Addr).add ((k : Int).toNat) = ⟨gn, k, none⟩ := by simp [Addr.add]; omega
    have hcell : W.cell? ⟨gn, k, none⟩ = some (.string (p.s.getD k ⟨#[]⟩)) := by rw [← hS, ← ea2]; exact hcell
    have hmem : p.s.getD k ⟨#[]⟩ ∈ p.s := by
      rw [List.getD_eq_getElem?_getD, List.getElem?_eq_getElem (by omega)]
      exact List.getElem_mem _
    have hC := (Kd.R_reads' j3.r1).2.2
    obtain ⟨ad, he, -, r1, -, -⟩ := at_T33 hC (k : Int) (by omega) (by show (k : Int) < ((numTo p names k).length : Int); omega)
    cases he
    have ea : (⟨ga, 0, none⟩ : Addr).add ((k : Int).toNat * 4) = ⟨ga, k * 4, none⟩ := by simp [Addr.add]; omega
    rw [ea] at r1
    obtain ⟨cells, hcells⟩ := Kd.R_typed j3.r1 ga (by simp [Value.ownBlock])
    have hin := hnm k hk h3
    obtain ⟨z, hz⟩ : ∃ z, names.idxOf (p.s.getD k ⟨#[]⟩).data.toList = z := ⟨_, rfl⟩
    have hzl : z < names.length := by rw [← hz]; exact List.idxOf_lt_length_of_mem hin
    have hzn : names.getD z [] = (p.s.getD k ⟨#[]⟩).data.toList := by
      rw [List.getD_eq_getElem?_getD, List.getElem?_eq_getElem hzl, Option.getD_some]
      subst hz
      exact List.getElem_idxOf _
    have hat := hD z hzl
    rw [hzn] at hat
    refine (do3_c (g := g) (gn := gn) (n2 := p.s.length) (c2 := c2) (ga := ga) (n1 := p.n.length) (c1 := c1) (z := (z : Int)) j2 j1 j3.c1 (by omega) hcell (hx _ hmem) j4 j3.c0 hk r1 (blk_frozen hcells _) hat).mono ?_
    rintro e w' ⟨rfl, n, rfl⟩
    obtain ⟨hr', hg'⟩ := node_set (Kd.R_drewN j3.r1 n) k (by exact hk) (z : Int)
    have hga : ∀ kk, (Value.slice (some ⟨ga, 0, none⟩) p.n.length c1).ownBlock = some kk → kk = ga := by
      intro kk hkk
      simp [Value.ownBlock] at hkk
      exact hkk.symm
    have hgne : some g ≠ some ga := fun e => j3.n1 (by rw [e]; simp [Value.ownBlock])
    have hap : ∀ {α : Type} {d' : Kd α} {e' b' : Nat} {ok' : Nat → Prop} {u : Value} {ys : List α}, d'.R e' W b' ok' u ys → e' ≠ 33 → ∀ kk, some ga = some kk → some kk ≠ u.ownBlock := by
      intro α d' e' b' ok' u ys hR hne' kk hkk
      injection hkk with hkk
      subst hkk
      exact rows_apart j3.r1 hR hne' ga (by simp [Value.ownBlock])
    have hbase : w0.heap.size ≤ ga := Kd.R_base j3.r1 ga (by simp [Value.ownBlock])
    have hnew : (numTo p names k).set k { (numTo p names k).getD k ⟨0, 0, 0, ⟨#[]⟩⟩ with f1 := (z : Int) } = numTo p names (k + 1) := by
      rw [numTo_succ p names k hs hk, numTo_at p names k hs hk]
      unfold numbered
      rw [if_neg h3, hz]
    refine ⟨rfl, ?_, ?_, ⟨?_, j3.ge, ?_, ?_, ?_, ?_⟩, ?_, ?_, ?_⟩
    · exact hg'.cell (a := ⟨bb, 0, none⟩) (by exact j1) (by intro e; injection e with e; exact hne bb (Or.inl rfl) e)
    · exact hg'.cell (a := ⟨nb, 0, none⟩) (by exact j2) (by intro e; injection e with e; exact hne nb (Or.inr (Or.inl rfl)) e)
    · exact blk_grown (blk_drewN j3.blk n) hg' hgne
    · rw [← hnew]; exact hr'
    · exact Kd.R_grown2 (Kd.R_drewN j3.r2 n) rfl hg' (hap j3.r2 (by decide))
    · exact Kd.R_grown2 (Kd.R_drewN j3.r3 n) rfl hg' (hap j3.r3 (by decide))
    · exact (pw_below_drewN j3.bel n).setCell (p := ⟨ga, k * 4 + 1, none⟩) hbase _
    · exact World.ownsMap.kept (show (W.drewN n).ownsMap Try.prog 9 RI mb cnt D from j4) hg' (by intro e; injection e with e; exact hne mb (Or.inr (Or.inr (Or.inl rfl))) e)
    · exact blk_grown (blk_drewN j5 n) hg' (by intro e; injection e with e; exact hne tb (Or.inr (Or.inr (Or.inr rfl))) e)
    · exact Kd.R_grown2 (Kd.R_drewN j6 n) rfl hg' (hap j6 (by decide))
theorem name_in (p : PS) (hs : p.s.length = p.n.length) (k : Nat) (hk : k < p.n.length) (h3 : ¬ (p.n.getD k ⟨0, 0, 0, ⟨#[]⟩⟩).f0 = 3) : (p.s.getD k ⟨#[]⟩).data.toList ∈ sortedP (namesOf p) := by
  unfold sortedP
  refine (List.mergeSort_perm _ _).mem_iff.2 ((mem_onceP _ _).2 ?_)
  unfold namesOf
  have hz : k < (p.n.zip p.s).length := by rw [List.length_zip]; omega
  refine List.mem_filterMap.2 ⟨(p.n.zip p.s)[k], List.getElem_mem hz, ?_⟩
  rw [List.getElem_zip]
  rw [List.getD_eq_getElem?_getD, List.getElem?_eq_getElem hk, Option.getD_some] at h3
  rw [List.getD_eq_getElem?_getD, List.getElem?_eq_getElem (show k < p.s.length by omega), Option.getD_some, if_neg h3]
end Go.Proofs.Ytlhhhlimjajnlaa.X
end
section
set_option linter.unusedVariables false
set_option linter.unusedSimpArgs false
namespace Go.Proofs.Ytlhhhlimjajnlaa.P13
open Go.RowKit Go.Proofs.Ytlhhhlimjajnlaa Go.Proofs.Ytlhhhlimjajnlaa.Q Go.Proofs.Ytlhhhlimjajnlaa.P11 Go.Proofs.Ytlhhhlimjajnlaa.P12 Go.Proofs.YtlhhhlimjajnlaaW.PrintWords Go.Proofs.Ytlhhhlimjajnlaa.X
def treeN (p : PS) : List Nod := (p.n.zip p.s).map fun c => numbered (sortedP (namesOf p)) c.1 c.2
abbrev nz : Nod := ⟨0, 0, 0, ⟨#[]⟩⟩
theorem treeN_len (p : PS) (h : p.s.length = p.n.length) : (treeN p).length = p.n.length := by
  unfold treeN; rw [List.length_map, List.length_zip, h, Nat.min_self]
theorem treeN_at (p : PS) (h : p.s.length = p.n.length) (i : Nat) (hi : i < p.n.length) : (treeN p).getD i nz = numbered (sortedP (namesOf p)) (p.n.getD i nz) (p.s.getD i ⟨#[]⟩) := by
  unfold treeN
  simp only [List.getD_eq_getElem?_getD, List.getElem?_map]
  rw [List.getElem?_eq_getElem (show i < (p.n.zip p.s).length by rw [List.length_zip]; omega), List.getElem?_eq_getElem hi, List.getElem?_eq_getElem (show i < p.s.length by omega)]
  simp
theorem num_f0 (S : List (List UInt8)) (n : Nod) (s : ByteArray) : (numbered S n s).f0 = n.f0 := by unfold numbered; split <;> rfl
theorem num_f2 (S : List (List UInt8)) (n : Nod) (s : ByteArray) : (numbered S n s).f2 = n.f2 := by unfold numbered; split <;> rfl
theorem num_f3 (S : List (List UInt8)) (n : Nod) (s : ByteArray) : (numbered S n s).f3 = n.f3 := by unfold numbered; split <;> rfl
theorem mem_names (p : PS) (h : p.s.length = p.n.length) (i : Nat) (hi : i < p.n.length) (h3 : ¬ (p.n.getD i nz).f0 = 3) : (p.s.getD i ⟨#[]⟩).data.toList ∈ namesOf p := by
  unfold namesOf
  rw [List.mem_filterMap]
  refine ⟨(p.n.getD i nz, p.s.getD i ⟨#[]⟩), ?_, by simp only; rw [if_neg h3]⟩
  rw [List.getD_eq_getElem?_getD, List.getD_eq_getElem?_getD, List.getElem?_eq_getElem hi, List.getElem?_eq_getElem (show i < p.s.length by omega)]
  show (p.n[i], p.s[i]) ∈ _
  have : (p.n.zip p.s)[i]'(by rw [List.length_zip]; omega) = (p.n[i], p.s[i]) := List.getElem_zip
  rw [← this]; exact List.getElem_mem _
theorem mem_sorted (l : List (List UInt8)) (x : List UInt8) : x ∈ sortedP l ↔ x ∈ l := by
  unfold sortedP; rw [List.mem_mergeSort, mem_onceP]
theorem bytesL_data (s : ByteArray) : bytesL s.data.toList = s := by unfold bytesL; apply ByteArray.ext; simp
theorem num_name (p : PS) (h : p.s.length = p.n.length) (i : Nat) (hi : i < p.n.length) (h3 : ¬ (p.n.getD i nz).f0 = 3) :
    0 ≤ ((treeN p).getD i nz).f1 ∧ ((treeN p).getD i nz).f1 < (((sortedP (namesOf p)).map bytesL).length : Int) ∧ rdOf ByteArray.empty ((sortedP (namesOf p)).map bytesL) ((treeN p).getD i nz).f1 = p.s.getD i ⟨#[]⟩ := by
  rw [treeN_at p h i hi]
  have hm := (mem_sorted _ _).2 (mem_names p h i hi h3)
  have hlt := List.idxOf_lt_length_of_mem hm
  unfold numbered
  rw [if_neg h3, List.length_map]
  refine ⟨by show (0 : Int) ≤ ((_ : Nat) : Int); omega, by show ((_ : Nat) : Int) < _; omega, ?_⟩
  show rdOf ByteArray.empty _ (((sortedP (namesOf p)).idxOf (p.s.getD i ⟨#[]⟩).data.toList : Nat) : Int) = _
  unfold rdOf
  rw [Int.toNat_natCast, List.getD_eq_getElem?_getD, List.getElem?_map, List.getElem?_eq_getElem hlt, List.getElem_idxOf]
  exact bytesL_data _
theorem once_len : ∀ l : List (List UInt8), (onceP l).length ≤ l.length
  | [] => Nat.le_refl _
  | a :: t => by
    unfold onceP
    have := once_len t
    split
    · rw [List.length_cons]; omega
    · rw [List.length_cons, List.length_cons]; omega
theorem names_len (p : PS) : (sortedP (namesOf p)).length ≤ p.n.length := by
  unfold sortedP
  rw [List.length_mergeSort]
  refine Nat.le_trans (once_len _) ?_
  unfold namesOf
  refine Nat.le_trans (List.length_filterMap_le _ _) ?_
  rw [List.length_zip]; omega
theorem tree_ok (p : PS) (h : (treeP p).2 = 0) : p.wr = false ∧ p.o = [] ∧ 0 < p.n.length ∧ treeP p = (((sortedP (namesOf p)).map bytesL, treeN p), 0) := by
  unfold treeP at h ⊢
  by_cases c : p.wr = true ∨ 0 < p.o.length ∨ p.n.length = 0
  · rw [if_pos c] at h; exact absurd h (by decide)
  · rw [if_neg c] at h ⊢
    by_cases c2 : p.dp = true ∨ 5000 < p.n.length ∨ 1000 < (sortedP (namesOf p)).length
    · rw [if_pos c2] at h; exact absurd h (by decide)
    · rw [if_neg c2]
      refine ⟨?_, ?_, ?_, rfl⟩
      · cases hw : p.wr with
        | true => exact absurd (Or.inl hw) c
        | false => rfl
      · cases ho : p.o with
        | nil => rfl
        | cons a b => exact absurd (Or.inr (Or.inl (by rw [ho]; simp))) c
      · exact Nat.pos_of_ne_zero fun e => c (Or.inr (Or.inr e))
theorem tree_is (p : PS) (h1 : p.wr = false) (h2 : p.o = []) (h3 : 0 < p.n.length) (h4 : p.dp = false) (h5 : p.n.length ≤ 1000) : treeP p = (((sortedP (namesOf p)).map bytesL, treeN p), 0) := by
  unfold treeP
  have := names_len p
  rw [if_neg (by rw [h1, h2]; simp; exact List.ne_nil_of_length_pos h3), if_neg (by rw [h4]; simp; omega)]; rfl
def Wide (l : List Tok) : Prop := ∀ t, t ∈ l → t.f0 = 1 → t.f1 + 2 ≤ t.f2
theorem wide_app {l r : List Tok} (h1 : Wide l) (h2 : Wide r) : Wide (l ++ r) := fun t ht => by
  rcases List.mem_append.1 ht with h | h
  · exact h1 t h
  · exact h2 t h
theorem wide_one {t : Tok} (h : t.f0 = 1 → t.f1 + 2 ≤ t.f2) : Wide [t] := fun u hu => by rw [List.mem_singleton.1 hu]; exact h
theorem attrs_wide (d : ByteArray) : ∀ (n : Nat) (a : Int) (acc r : List Tok) (a' : Int), Wide acc → attrsF d n a acc = some (r, a') → Wide r := by
  intro n
  induction n with
  | zero => intro a acc r a' _ h; cases h
  | succ n ih =>
    intro a acc r a' hacc h
    unfold attrsF at h
    split at h
    · injection h with h; injection h with h2 h3
      rw [← h2]; exact wide_app hacc (wide_one fun e => absurd e (by show ¬ (3 : Int) = 1; omega))
    split at h
    · injection h with h; injection h with h2 h3
      rw [← h2]; exact wide_app hacc (wide_one fun e => absurd e (by show ¬ (4 : Int) = 1; omega))
    cases hA : attrP d a with
    | none => rw [hA] at h; cases h
    | some v =>
      obtain ⟨new, p⟩ := v
      rw [hA] at h
      exact ih p (acc ++ new) r a' (wide_app hacc fun t ht e => absurd e (by rw [attr_kind d a new p hA t ht]; omega)) h
theorem step_wide (d : ByteArray) (a : Int) (new : List Tok) (a' : Int) (h : stepP d a = some (new, a')) : Wide new := by
  unfold stepP at h
  split at h
  · unfold commentP at h
    simp only at h
    split at h
    · cases h
    split at h
    · injection h with h; injection h with h2 h3
      rw [← h2]; exact wide_one fun e => absurd e (by show ¬ (7 : Int) = 1; omega)
    · cases h
  split at h
  · unfold plainP at h
    simp only at h
    split at h
    · injection h with h; injection h with h2 h3
      rw [← h2]; exact wide_one fun e => absurd e (by show ¬ (6 : Int) = 1; omega)
    · cases h
  split at h
  · unfold closingP at h
    simp only at h
    split at h
    · cases h
    split at h
    · injection h with h; injection h with h2 h3
      rw [← h2]; exact wide_one fun e => absurd e (by show ¬ (5 : Int) = 1; omega)
    · cases h
  split at h
  · unfold tagP at h
    simp only at h
    split at h
    · cases h
    · rename_i hne
      have := name_ge d.data.toList (a + 1)
      exact attrs_wide d _ _ _ _ _ (wide_one fun _ => by show a + 2 ≤ nameEndP d.data.toList (a + 1); omega) h
  · unfold textP at h
    simp only at h
    cases hd : dec (Lib.cut (d.data.toList.drop a.toNat) [60]).1 with
    | none => rw [hd] at h; cases h
    | some v =>
      rw [hd] at h
      injection h with h; injection h with h2 h3
      rw [← h2]; exact wide_one fun e => absurd e (by show ¬ (6 : Int) = 1; omega)
theorem lexF_wide (s : ByteArray) (n : Nat) : ∀ (a : Int) (acc l : List Tok), Wide acc → lexF s n a acc = some l → Wide l := by
  induction n with
  | zero => intro a acc l _ h; cases h
  | succ n ih =>
    intro a acc l hv h
    unfold lexF at h
    split at h
    · cases hS : stepP s a with
      | none => rw [hS] at h; cases h
      | some v =>
        obtain ⟨new, a'⟩ := v
        rw [hS] at h
        exact ih a' (acc ++ new) l (wide_app hv (step_wide s a new a' hS)) h
    · obtain rfl := Option.some.inj h
      exact hv
theorem lexV_wide (s : ByteArray) : Wide (lexV s).1 := by
  unfold lexV
  split
  · intro t ht; cases ht
  split
  · intro t ht; cases ht
  · cases h : lexO s with
    | none => intro t ht; cases ht
    | some l => exact lexF_wide s _ 0 [] l (fun t ht => by cases ht) h
theorem wr_flush {p : PS} (h : (flushP p).wr = false) : p.wr = false := by
  unfold flushP at h
  split at h
  · exact h
  split at h
  · simp only [Bool.or_eq_false_iff] at h; exact h.1
  · exact h
theorem wr_end {p : PS} {name : ByteArray} (h : (endP p name).wr = false) : ¬ topP p.o < 0 ∧ (flushP p).wr = false ∧ ((flushP p).s.getD (topP p.o).toNat ⟨#[]⟩).data.toList = name.data.toList ∧ endP p name = { flushP p with o := p.o.dropLast } := by
  have ho : (flushP p).o = p.o := by unfold flushP; split; rfl; split <;> rfl
  unfold endP at h ⊢
  simp only at h ⊢
  rw [ho] at h ⊢
  by_cases c : topP p.o < 0 ∨ ¬ ((flushP p).s.getD (topP p.o).toNat ⟨#[]⟩).data.toList = name.data.toList
  · rw [if_pos c] at h; exact absurd h (by simp)
  · rw [if_neg c] at h ⊢
    exact ⟨fun e => c (Or.inl e), h, Classical.byContradiction fun e => c (Or.inr e), rfl⟩
theorem wr_begin {p : PS} {name : ByteArray} (h : (beginP p name).wr = false) : (flushP p).wr = false ∧ ¬ (topP p.o < 0 ∧ 0 < (flushP p).n.length) := by
  have ho : (flushP p).o = p.o := by unfold flushP; split; rfl; split <;> rfl
  have h : ((flushP p).wr || (decide (topP (flushP p).o < 0) && decide (0 < (flushP p).n.length))) = false := h
  rw [ho] at h
  simp only [Bool.or_eq_false_iff, Bool.and_eq_false_iff, decide_eq_false_iff_not] at h
  exact ⟨h.1, fun c => by rcases h.2 with h | h; exact h c.1; exact h c.2⟩
theorem wr_step {p : PS} {t : Tok} (h : (X.stepT p t).wr = false) : p.wr = false := by
  unfold X.stepT at h
  repeat' split at h
  · exact h
  · exact h
  · exact wr_flush (wr_begin h).1
  · unfold attrS putP at h; simp only [Bool.or_eq_false_iff] at h; exact h.1
  · exact wr_flush (wr_end h).2.1
  · exact wr_flush (wr_end h).2.1
  · exact h
theorem wr_run : ∀ (l : List Tok) {p : PS}, (l.foldl X.stepT p).wr = false → p.wr = false
  | [], p, h => h
  | t :: l, p, h => wr_step (wr_run l h)
theorem step_sh (a : Int) (p : PS) (t : Tok) : X.stepT p (shT a t) = X.stepT p t := rfl
theorem fold_sh (a : Int) : ∀ (l : List Tok) (p : PS), (l.map (shT a)).foldl X.stepT p = l.foldl X.stepT p
  | [], p => rfl
  | t :: l, p => by rw [List.map_cons, List.foldl_cons, List.foldl_cons, step_sh, fold_sh a l]
end Go.Proofs.Ytlhhhlimjajnlaa.P13
end
section
set_option linter.unusedVariables false
set_option linter.unusedSimpArgs false
namespace Go.Proofs.Ytlhhhlimjajnlaa.P13
open Go.RowKit Go.Proofs.Ytlhhhlimjajnlaa Go.Proofs.Ytlhhhlimjajnlaa.Q Go.Proofs.Ytlhhhlimjajnlaa.P11 Go.Proofs.Ytlhhhlimjajnlaa.P12 Go.Proofs.YtlhhhlimjajnlaaW.PrintWords Go.Proofs.Ytlhhhlimjajnlaa.X
abbrev zzB : ByteArray := ⟨#[122, 122]⟩
abbrev noB : ByteArray := ⟨#[]⟩
abbrev rootN : Nod := ⟨1, 0, -1, noB⟩
def q0 : PS := ⟨[rootN], [zzB], [0], noB, false, false⟩
def upN (at_ : Int) (n : Nod) : Nod := { n with f2 := n.f2 + at_ }
def NsA (p q : PS) : Prop := p.n = [] ∧ p.s = [] ∧ p.o = [] ∧ p.wr = false ∧ q.n = [rootN] ∧ q.s = [zzB] ∧ q.o = [0] ∧ q.x = p.x ∧ q.wr = false ∧ q.dp = false
def Pre (at_ : Nat) (pre : List Nod) (preS : List ByteArray) : Prop := (at_ = 1 ∧ pre = [rootN] ∧ preS = [zzB]) ∨ (at_ = 2 ∧ (∃ x, pre = [rootN, ⟨3, -1, 0, x⟩]) ∧ preS = [zzB, noB])
theorem Pre.len {a : Nat} {pre : List Nod} {preS : List ByteArray} (h : Pre a pre preS) : pre.length = a ∧ preS.length = a := by
  rcases h with ⟨rfl, rfl, rfl⟩ | ⟨rfl, ⟨x, rfl⟩, rfl⟩ <;> exact ⟨rfl, rfl⟩
def NsB (a : Nat) (pre : List Nod) (preS : List ByteArray) (p q : PS) : Prop :=
  Pre a pre preS ∧ (∃ r rest, p.n = r :: rest ∧ r.f0 = 1 ∧ q.n = pre ++ ({ r with f2 := 0 } :: rest.map (upN a))) ∧ q.s = preS ++ p.s ∧ p.s.length = p.n.length ∧ q.o = 0 :: p.o.map (· + (a : Int)) ∧ q.x = p.x ∧ p.wr = false ∧ q.wr = false ∧ q.dp = false ∧ ∀ z, z ∈ p.o → 0 ≤ z
def Ns (p q : PS) : Prop := NsA p q ∨ ∃ a pre preS, NsB a pre preS p q
theorem topP_up (o : List Int) (a : Int) (h : o ≠ []) : topP (0 :: o.map (· + a)) = topP o + a := by
  rcases List.eq_nil_or_concat o with h' | ⟨pre, z, h'⟩
  · exact absurd h' h
  · rw [h', List.concat_eq_append, show (0 :: (pre ++ [z]).map (· + a)) = (0 :: pre.map (· + a)) ++ [z + a] from by simp]
    unfold topP
    rw [List.getLast?_concat, List.getLast?_concat]; rfl
theorem topP_pos {o : List Int} (h : o ≠ []) (hz : ∀ z, z ∈ o → 0 ≤ z) : 0 ≤ topP o := hz _ (topP_in o h)
theorem NsB.lens {a : Nat} {pre : List Nod} {preS : List ByteArray} {p q : PS} (h : NsB a pre preS p q) : q.n.length = p.n.length + a ∧ 0 < p.n.length := by
  obtain ⟨hp, ⟨r, rest, e1, e2, e3⟩, -⟩ := h
  rw [e3, e1, List.length_append, List.length_cons, List.length_cons, List.length_map, hp.len.1]; omega
theorem NsB.put {a : Nat} {pre : List Nod} {preS : List ByteArray} {p q : PS} (h : NsB a pre preS p q) (ho : p.o ≠ []) (k nm : Int) (v name : ByteArray) : NsB a pre preS (putP p k nm v name) (putP q k nm v name) := by
  obtain ⟨hp, ⟨r, rest, e1, e2, e3⟩, h3, h4, h5, h6, h7, h8, h9, h10⟩ := h
  refine ⟨hp, ⟨r, rest ++ [⟨k, nm, topP p.o, v⟩], ?_, e2, ?_⟩, ?_, ?_, h5, h6, h7, h8, h9, h10⟩
  · show p.n ++ _ = _; rw [e1]; rfl
  · show q.n ++ [⟨k, nm, topP q.o, v⟩] = _
    rw [e3, h5, topP_up _ _ ho, List.map_append, List.append_assoc]; rfl
  · show q.s ++ _ = preS ++ (p.s ++ _); rw [h3, List.append_assoc]
  · show (p.s ++ _).length = (p.n ++ _).length; rw [List.length_append, List.length_append, h4]; rfl
theorem NsB.flush {a : Nat} {pre : List Nod} {preS : List ByteArray} {p q : PS} (h : NsB a pre preS p q) (ho : p.o ≠ []) : NsB a pre preS (flushP p) (flushP q) := by
  have hx := h.2.2.2.2.2.1
  have h5 := h.2.2.2.2.1
  have h10 := h.2.2.2.2.2.2.2.2.2
  have hp := topP_pos ho h10
  have hup := topP_up p.o a ho
  rw [← h5] at hup
  have hE : NsB a pre preS { p with x := noB } { q with x := noB } := by
    obtain ⟨g1, g2, g3, g4, g5, g6, g7, g8, g9, g10⟩ := h
    exact ⟨g1, g2, g3, g4, g5, rfl, g7, g8, g9, g10⟩
  unfold flushP
  rw [hx]
  by_cases c : p.x.data.toList = []
  · rw [if_pos c, if_pos c]; exact hE
  · rw [if_neg c, if_neg c, if_neg (by omega), if_neg (by omega)]
    exact hE.put ho 3 (-1) p.x noB
theorem flush_keeps (p : PS) : (flushP p).o = p.o ∧ (flushP p).x = noB ∧ (flushP p).dp = p.dp := by
  unfold flushP; split
  · exact ⟨rfl, rfl, rfl⟩
  split
  · exact ⟨rfl, rfl, rfl⟩
  · exact ⟨rfl, rfl, rfl⟩
theorem NsB.endd {a : Nat} {pre : List Nod} {preS : List ByteArray} {p q : PS} (h : NsB a pre preS p q) (ho : p.o ≠ []) (name : ByteArray) (hw : (endP p name).wr = false) (hlt : topP p.o < (p.s.length : Int)) : NsB a pre preS (endP p name) (endP q name) := by
  obtain ⟨w1, w2, w3, w4⟩ := wr_end hw
  have hf := h.flush ho
  have hp := topP_pos ho h.2.2.2.2.2.2.2.2.2
  have hup := topP_up p.o a ho
  rw [← h.2.2.2.2.1] at hup
  obtain ⟨ko, kx, kd⟩ := flush_keeps p
  obtain ⟨ko', kx', kd'⟩ := flush_keeps q
  rw [w4]
  obtain ⟨t5, f5⟩ : ∃ t, (flushP p).s = p.s ++ t := by
    unfold flushP
    by_cases c : p.x.data.toList = []
    · rw [if_pos c]; exact ⟨[], by simp⟩
    · rw [if_neg c, if_neg (by omega)]; exact ⟨_, rfl⟩
  have hq : endP q name = { flushP q with o := q.o.dropLast } := by
    unfold endP
    simp only
    rw [ko']
    rw [if_neg]
    rintro (c | c)
    · omega
    · apply c
      rw [← w3, hf.2.2.1, hup, show (topP p.o + (a : Int)).toNat = preS.length + (topP p.o).toNat from by rw [h.1.len.2]; omega]
      simp [List.getElem?_append_right]
  rw [hq]
  obtain ⟨g1, g2, g3, g4, g5, g6, g7, g8, g9, g10⟩ := hf
  refine ⟨g1, g2, g3, g4, ?_, g6, g7, g8, g9, ?_⟩
  · show q.o.dropLast = 0 :: p.o.dropLast.map _
    rw [h.2.2.2.2.1]
    rcases List.eq_nil_or_concat p.o with h' | ⟨pre, z, h'⟩
    · exact absurd h' ho
    · rw [h']; simp [List.dropLast_cons_of_ne_nil]
  · intro z hz
    exact h.2.2.2.2.2.2.2.2.2 z (List.dropLast_sublist _ |>.subset hz)
theorem ns_step {p q : PS} {t : Tok} (h : Ns p q) (hw : (X.stepT p t).wr = false) (hin : t.f0 = 2 ∨ t.f0 = 4 → p.o ≠ []) (hd : p.o.length ≤ 60) (hlt : topP p.o < (p.s.length : Int)) : Ns (X.stepT p t) (X.stepT q t) := by
  have hw0 := wr_step hw
  unfold X.stepT at hw ⊢
  by_cases c7 : t.f0 = 7
  · rw [if_pos c7, if_pos c7]; exact h
  rw [if_neg c7] at hw
  rw [if_neg c7, if_neg c7]
  by_cases c6 : t.f0 = 6
  · rw [if_pos c6, if_pos c6]
    rcases h with ⟨g1, g2, g3, g4, g5, g6, g7, g8, g9, g10⟩ | ⟨a, pre, preS, g1, g2, g3, g4, g5, g6, g7, g8, g9, g10⟩
    · exact Or.inl ⟨g1, g2, g3, g4, g5, g6, g7, by show q.x ++ _ = p.x ++ _; rw [g8], g9, g10⟩
    · exact Or.inr ⟨a, pre, preS, g1, g2, g3, g4, g5, by show q.x ++ _ = p.x ++ _; rw [g6], g7, g8, g9, g10⟩
  rw [if_neg c6] at hw
  rw [if_neg c6, if_neg c6]
  by_cases c1 : t.f0 = 1
  · rw [if_pos c1] at hw
    rw [if_pos c1, if_pos c1]
    obtain ⟨w1, w2⟩ := wr_begin hw
    rcases h with ⟨g1, g2, g3, g4, g5, g6, g7, g8, g9, g10⟩ | ⟨a, pre, preS, hb⟩
    · 
      have hf : flushP p = ⟨[], [], [], noB, p.dp, false⟩ := by
        have e1 : (flushP p).n = [] ∧ (flushP p).s = [] := by
          unfold flushP
          split
          · exact ⟨g1, g2⟩
          · rw [g3, if_pos (by decide)]; exact ⟨g1, g2⟩
        obtain ⟨ko, kx, kd⟩ := flush_keeps p
        rw [g3] at ko
        cases hfp : flushP p with
        | mk n s o x dp wr =>
          rw [hfp] at e1 ko kx kd w1
          simp only at e1 ko kx kd w1
          rw [e1.1, e1.2, ko, kx, kd, w1]
      have hbp : beginP p t.f3 = ⟨[rootN], [t.f3], [0], noB, p.dp, false⟩ := by
        unfold beginP
        rw [hf]
        simp [putP, topP]
      rw [hbp]
      by_cases cx : p.x.data.toList = []
      · refine Or.inr ⟨1, [rootN], [zzB], Or.inl ⟨rfl, rfl, rfl⟩, ⟨rootN, [], rfl, rfl, ?_⟩, ?_, rfl, ?_, ?_, rfl, ?_, ?_, ?_⟩
        all_goals (try unfold beginP)
        all_goals try rw [show flushP q = ⟨[rootN], [zzB], [0], noB, false, false⟩ from by unfold flushP; rw [g8, if_pos cx, g5, g6, g7, g9, g10]]
        · simp [putP, topP]
        · simp [putP, topP]
        · simp [putP, topP]
        · simp [putP, topP]
        · simp [putP, topP]
        · simp [putP, topP]
        · intro z hz; rw [List.mem_singleton.1 hz]; exact Int.le_refl _
      · refine Or.inr ⟨2, [rootN, ⟨3, -1, 0, p.x⟩], [zzB, noB], Or.inr ⟨rfl, ⟨_, rfl⟩, rfl⟩, ⟨rootN, [], rfl, rfl, ?_⟩, ?_, rfl, ?_, ?_, rfl, ?_, ?_, ?_⟩
        all_goals (try unfold beginP)
        all_goals try rw [show flushP q = ⟨[rootN, ⟨3, -1, 0, p.x⟩], [zzB, noB], [0], noB, false, false⟩ from by unfold flushP; rw [g8, if_neg cx, g7, if_neg (by decide)]; simp only [putP, g5, g6, g7, g9, g10]; rfl]
        · simp [putP, topP]
        · simp [putP, topP]
        · simp [putP, topP]
        · simp [putP, topP]
        · simp [putP, topP]
        · simp [putP, topP]
        · intro z hz; rw [List.mem_singleton.1 hz]; exact Int.le_refl _
    · have hl := hb.lens
      have hfl : p.n.length ≤ (flushP p).n.length := by
        unfold flushP; split; exact Nat.le_refl _; split; exact Nat.le_refl _; simp [putP]
      have ho : p.o ≠ [] := fun e => w2 ⟨by rw [e]; decide, by omega⟩
      have hf := hb.flush ho
      obtain ⟨ko, kx, kd⟩ := flush_keeps p
      obtain ⟨ko', kx', kd'⟩ := flush_keeps q
      have hfl2 := hf.lens
      have hpos := topP_pos ho hb.2.2.2.2.2.2.2.2.2
      have hup := topP_up p.o a ho
      rw [← hb.2.2.2.2.1] at hup
      have hq5 := hb.2.2.2.2.1
      have hfo : (flushP p).o ≠ [] := by rw [ko]; exact ho
      have hS : NsB a pre preS { flushP p with wr := (flushP p).wr || (decide (topP (flushP p).o < 0) && decide (0 < (flushP p).n.length)), dp := (flushP p).dp || decide ((64 : Int) < (flushP p).o.length) } { flushP q with wr := (flushP q).wr || (decide (topP (flushP q).o < 0) && decide (0 < (flushP q).n.length)), dp := (flushP q).dp || decide ((64 : Int) < (flushP q).o.length) } := by
        obtain ⟨h1, h2, h3, h4, h5, h6, h7, h8, h9, h10⟩ := hf
        refine ⟨h1, h2, h3, h4, h5, h6, ?_, ?_, ?_, h10⟩
        · show ((flushP p).wr || _) = false
          rw [w1, ko]; simp; omega
        · show ((flushP q).wr || _) = false
          rw [h8, ko']; simp; omega
        · show ((flushP q).dp || _) = false
          rw [h9, ko', hq5]; simp; omega
      have hP := hS.put hfo 1 0 noB t.f3
      refine Or.inr ⟨a, pre, preS, ?_⟩
      obtain ⟨h1, h2, h3, h4, h5, h6, h7, h8, h9, h10⟩ := hP
      refine ⟨h1, h2, h3, h4, ?_, h6, h7, h8, h9, ?_⟩
      · show (flushP q).o ++ [((flushP q).n.length : Int)] = 0 :: ((flushP p).o ++ [((flushP p).n.length : Int)]).map _
        rw [ko', hq5, ko, hfl2.1]
        simp
      · intro z hz
        have hz : z ∈ (flushP p).o ++ [((flushP p).n.length : Int)] := hz
        rcases List.mem_append.1 hz with hz | hz
        · exact hf.2.2.2.2.2.2.2.2.2 z hz
        · rw [List.mem_singleton.1 hz]; omega
  rw [if_neg c1] at hw
  rw [if_neg c1, if_neg c1]
  by_cases c2 : t.f0 = 2
  · rw [if_pos c2] at hw
    rw [if_pos c2, if_pos c2]
    have ho := hin (Or.inl c2)
    rcases h with hA | ⟨a, pre, preS, hb⟩
    · exact absurd hA.2.2.1 ho
    · refine Or.inr ⟨a, pre, preS, ?_⟩
      have hpos := topP_pos ho hb.2.2.2.2.2.2.2.2.2
      have hup := topP_up p.o a ho
      rw [← hb.2.2.2.2.1] at hup
      unfold attrS at hw ⊢
      have hw : (p.wr || ((p.s.drop (topP p.o + 1).toNat).any fun x => x.data.toList == t.f3.data.toList)) = false := hw
      have hdrop : q.s.drop (topP q.o + 1).toNat = p.s.drop (topP p.o + 1).toNat := by
        rw [hb.2.2.1, hup, show (topP p.o + (a : Int) + 1).toNat = preS.length + (topP p.o + 1).toNat from by rw [hb.1.len.2]; omega, List.drop_append]
        simp
      have hS : NsB a pre preS { p with wr := p.wr || ((p.s.drop (topP p.o + 1).toNat).any fun x => x.data.toList == t.f3.data.toList) } { q with wr := q.wr || ((q.s.drop (topP q.o + 1).toNat).any fun x => x.data.toList == t.f3.data.toList) } := by
        obtain ⟨h1, h2, h3, h4, h5, h6, h7, h8, h9, h10⟩ := hb
        refine ⟨h1, h2, h3, h4, h5, h6, hw, ?_, h9, h10⟩
        show (q.wr || _) = false
        rw [hdrop, h8]; rw [h7] at hw; exact hw
      exact hS.put ho 2 0 t.f4 t.f3
  rw [if_neg c2] at hw
  rw [if_neg c2, if_neg c2]
  have hend : ∀ name : ByteArray, (endP p name).wr = false → p.o ≠ [] := by
    intro name hw e
    have := (wr_end hw).1
    rw [e] at this
    exact this (by decide)
  by_cases c4 : t.f0 = 4
  · rw [if_pos c4] at hw
    rw [if_pos c4, if_pos c4]
    have ho := hin (Or.inr c4)
    rcases h with hA | ⟨a, pre, preS, hb⟩
    · exact absurd hA.2.2.1 ho
    · have hpos := topP_pos ho hb.2.2.2.2.2.2.2.2.2
      have hup := topP_up p.o a ho
      rw [← hb.2.2.2.2.1] at hup
      have : q.s.getD (topP q.o).toNat ⟨#[]⟩ = p.s.getD (topP p.o).toNat ⟨#[]⟩ := by
        rw [hb.2.2.1, hup, show (topP p.o + (a : Int)).toNat = preS.length + (topP p.o).toNat from by rw [hb.1.len.2]; omega]
        simp [List.getElem?_append_right]
      rw [this]
      exact Or.inr ⟨a, pre, preS, hb.endd ho _ hw hlt⟩
  rw [if_neg c4] at hw
  rw [if_neg c4, if_neg c4]
  by_cases c5 : t.f0 = 5
  · rw [if_pos c5] at hw
    rw [if_pos c5, if_pos c5]
    have ho := hend _ hw
    rcases h with hA | ⟨a, pre, preS, hb⟩
    · exact absurd hA.2.2.1 ho
    · exact Or.inr ⟨a, pre, preS, hb.endd ho _ hw hlt⟩
  · rw [if_neg c5, if_neg c5]; exact h
def bi (x : Bool) : Int := if x then 1 else 0
theorem o_step (p : PS) (t : Tok) : ((X.stepT p t).o.length : Int) ≤ p.o.length + (if t.f0 = 1 then 1 else 0) := by
  obtain ⟨ko, kx, kd⟩ := flush_keeps p
  have he : ∀ name, (endP p name).o.length ≤ p.o.length := by
    intro name
    unfold endP
    simp only
    split
    · show (flushP p).o.length ≤ _; rw [ko]; exact Nat.le_refl _
    · show (flushP p).o.dropLast.length ≤ _; rw [ko, List.length_dropLast]; omega
  have h4 := he (p.s.getD (topP p.o).toNat ⟨#[]⟩)
  have h5 := he t.f3
  unfold X.stepT
  by_cases c7 : t.f0 = 7
  · rw [if_pos c7]; split <;> omega
  rw [if_neg c7]
  by_cases c6 : t.f0 = 6
  · rw [if_pos c6]; show (p.o.length : Int) ≤ _; split <;> omega
  rw [if_neg c6]
  by_cases c1 : t.f0 = 1
  · rw [if_pos c1, if_pos c1]
    show (((flushP p).o ++ [_]).length : Int) ≤ _
    rw [ko, List.length_append, List.length_singleton]; omega
  rw [if_neg c1, if_neg c1]
  split
  · show (p.o.length : Int) ≤ _; omega
  split
  · omega
  split
  · omega
  · omega
theorem ns_run (L : List UInt8) : ∀ (l : List Tok) (a b : Int) (x y : Bool) (p q : PS) (k : Nat) (m : Int), Seg L a x l b y → Vals l → Wide l → Inv p x k m → 0 ≤ a → 3 * (p.o.length : Int) ≤ a + bi x → b ≤ 150 → Ns p q → (l.foldl X.stepT p).wr = false → Ns (l.foldl X.stepT p) (l.foldl X.stepT q) := by
  intro l
  induction l with
  | nil => intro a b x y p q k m _ _ _ _ _ _ _ h _; exact h
  | cons u r ih =>
    intro a b x y p q k m hseg hv hwd hinv h0 hd hb h hw
    have hlt := topP_lt hinv
    have hsl := seg_le L _ _ _ _ _ hseg
    obtain ⟨h1, h2, h3, h4, h5, h6⟩ := hseg
    have hsl2 := seg_le L _ _ _ _ _ h6
    have hst := inv_step hinv u h5 h2 (hv u (List.mem_cons_self ..))
    have hbx : bi x ≤ 1 := by unfold bi; split <;> omega
    rw [List.foldl_cons] at hw ⊢
    have hw1 := wr_run r hw
    have hos := o_step p u
    refine ih u.f2 b (opens u.f0) y (X.stepT p u) (X.stepT q u) (k + 1) _ h6 (fun t ht => hv t (List.mem_cons_of_mem _ ht)) (fun t ht => hwd t (List.mem_cons_of_mem _ ht)) hst (by omega) ?_ hb (ns_step h hw1 ?_ (by omega) hlt) hw
    · have hw2 := hwd u (List.mem_cons_self ..)
      by_cases c1 : u.f0 = 1
      · have := hw2 c1
        rw [c1] at h5 hos ⊢
        rw [if_pos rfl] at hos
        rw [h5] at hd
        have e1 : bi (inTag 1) = 0 := rfl
        have e2 : bi (opens 1) = 1 := rfl
        rw [e1] at hd; rw [e2]
        omega
      · rw [if_neg c1] at hos
        by_cases c2 : u.f0 = 2
        · rw [c2] at h5 ⊢
          have e2 : bi (opens 2) = 1 := rfl
          rw [e2]; omega
        · have : 0 ≤ bi (opens u.f0) := by unfold bi; split <;> omega
          omega
    · intro ht
      have : x = true := by
        rw [h5]
        rcases ht with ht | ht
        · rw [ht]; rfl
        · rw [ht]; rfl
      exact hinv.2.2.2.2.1 this
end Go.Proofs.Ytlhhhlimjajnlaa.P13
end
section
set_option linter.unusedVariables false
set_option linter.unusedSimpArgs false
namespace Go.Proofs.Ytlhhhlimjajnlaa.P13
open Go.RowKit Go.Proofs.Ytlhhhlimjajnlaa Go.Proofs.Ytlhhhlimjajnlaa.Q Go.Proofs.Ytlhhhlimjajnlaa.P11 Go.Proofs.Ytlhhhlimjajnlaa.P12 Go.Proofs.YtlhhhlimjajnlaaW.PrintWords Go.Proofs.Ytlhhhlimjajnlaa.X
theorem lexV_ok (s : ByteArray) (h : (lexV s).2 = 0) : s.size ≤ 65536 ∧ validL s.data.toList = true ∧ lexO s = some (lexV s).1 := by
  unfold lexV at h ⊢
  by_cases c : (65536 : Int) < (s.size : Int)
  · rw [if_pos c] at h; cases h
  rw [if_neg c] at h ⊢
  by_cases c' : validL s.data.toList = false
  · rw [if_pos c'] at h; cases h
  rw [if_neg c'] at h ⊢
  cases ho : lexO s with
  | none => rw [ho] at h; cases h
  | some l => exact ⟨by omega, by simpa using c', rfl⟩
theorem lexV_is (s : ByteArray) (l : List Tok) (h1 : s.size ≤ 65536) (h2 : validL s.data.toList = true) (h3 : lexO s = some l) : lexV s = (l, 0) := by
  unfold lexV
  rw [if_neg (by omega), if_neg (by rw [h2]; decide), h3]
theorem parse_ok (s : ByteArray) (h : (parseV s).2 = 0) : (lexV s).2 = 0 ∧ parseV s = treeP (flushP ((lexV s).1.foldl X.stepT psZero)) := by
  unfold parseV at h ⊢
  by_cases c : (lexV s).2 = 0
  · rw [if_pos c]; exact ⟨c, rfl⟩
  · rw [if_neg c] at h; exact absurd h c
def Low (st : PS) : Prop := ∀ n, n ∈ st.n → -1 ≤ n.f2 ∧ n.f2 < (st.n.length : Int)
theorem top_low {st : PS} {x : Bool} {k : Nat} {m : Int} (h : Inv st x k m) : -1 ≤ topP st.o ∧ topP st.o < (st.n.length : Int) := by
  have h1 := topP_lt h
  refine ⟨?_, by rw [← h.1]; exact h1⟩
  by_cases ho : st.o = []
  · rw [ho]; decide
  · have := (h.2.2.2.1 _ (topP_in _ ho)).1; omega
theorem low_put {st st' : PS} (h : Low st) (ht : -1 ≤ topP st.o ∧ topP st.o < (st.n.length : Int)) (m : Nod) (hm : m.f2 = topP st.o) (hs : st'.n = st.n ++ [m]) : Low st' := by
  intro n hn
  rw [hs] at hn ⊢
  rw [List.length_append, List.length_singleton]
  rcases List.mem_append.1 hn with hn | hn
  · have := h n hn; omega
  · rw [List.mem_singleton.1 hn, hm]
    omega
theorem low_flush {st : PS} (h : Low st) (ht : -1 ≤ topP st.o ∧ topP st.o < (st.n.length : Int)) : Low (flushP st) := by
  unfold flushP
  split
  · exact h
  split
  · exact h
  · exact low_put h ht ⟨3, -1, topP st.o, st.x⟩ rfl rfl
theorem flush_top {st : PS} (ht : -1 ≤ topP st.o ∧ topP st.o < (st.n.length : Int)) : -1 ≤ topP (flushP st).o ∧ topP (flushP st).o < ((flushP st).n.length : Int) := by
  rw [(flush_keeps st).1]
  have : st.n.length ≤ (flushP st).n.length := by
    unfold flushP; split; exact Nat.le_refl _; split; exact Nat.le_refl _; simp [putP]
  omega
theorem low_end {st : PS} (h : Low st) (ht : -1 ≤ topP st.o ∧ topP st.o < (st.n.length : Int)) (name : ByteArray) : Low (endP st name) := by
  unfold endP
  simp only
  split
  · exact low_flush h ht
  · exact low_flush h ht
theorem low_step {st : PS} {x : Bool} {k : Nat} {m : Int} (hi : Inv st x k m) (h : Low st) (t : Tok) : Low (X.stepT st t) := by
  have ht := top_low hi
  unfold X.stepT
  split
  · exact h
  split
  · exact h
  split
  · exact low_put (low_flush h ht) (flush_top ht) ⟨1, 0, topP (flushP st).o, ⟨#[]⟩⟩ rfl rfl
  split
  · exact low_put h ht ⟨2, 0, topP st.o, t.f4⟩ rfl rfl
  split
  · exact low_end h ht _
  split
  · exact low_end h ht _
  · exact h
theorem low_run (L : List UInt8) : ∀ (l : List Tok) (a b : Int) (x y : Bool) (st : PS) (k : Nat) (m : Int), Seg L a x l b y → Vals l → Inv st x k m → Low st →
    Low (l.foldl X.stepT st) ∧ ∃ x' m', Inv (l.foldl X.stepT st) x' (k + l.length) m' := by
  intro l
  induction l with
  | nil => intro a b x y st k m _ _ hi h; exact ⟨h, x, m, hi⟩
  | cons u r ih =>
    intro a b x y st k m hseg hv hi h
    obtain ⟨h1, h2, h3, h4, h5, h6⟩ := hseg
    have := ih u.f2 b (opens u.f0) y (X.stepT st u) (k + 1) _ h6 (fun t ht => hv t (List.mem_cons_of_mem _ ht)) (inv_step hi u h5 h2 (hv u (List.mem_cons_self ..))) (low_step hi h u)
    rw [List.foldl_cons, List.length_cons, show k + (r.length + 1) = k + 1 + r.length from by omega]
    exact this
theorem run_ok (s : ByteArray) (h : (lexV s).2 = 0) : Low ((lexV s).1.foldl X.stepT psZero) ∧ ((lexV s).1.length ≤ s.size) ∧ ∃ x' m', Inv ((lexV s).1.foldl X.stepT psZero) x' (lexV s).1.length m' := by
  have h1 := low_run _ _ _ _ _ _ psZero 0 0 (lexV_seg s h) (lexV_vals s) inv_zero (fun n hn => by cases hn)
  have h2 := seg_len _ _ _ _ _ _ (lexV_seg s h)
  rw [Nat.zero_add] at h1
  exact ⟨h1.1, by omega, h1.2⟩
def zzO : ByteArray := ⟨#[60, 122, 122, 62]⟩
def zzC : ByteArray := ⟨#[60, 47, 122, 122, 62]⟩
def zzD (s : ByteArray) : ByteArray := (zzO ++ s) ++ zzC
theorem zzO_lex : lexO zzO = some [⟨1, 0, 3, zzB, noB⟩, ⟨3, 3, 4, noB, noB⟩] := by kernel_rfl
theorem zzC_lex : lexO zzC = some [⟨5, 0, 5, zzB, noB⟩] := by kernel_rfl
theorem zz_q0 : [(⟨1, 0, 3, zzB, noB⟩ : Tok), ⟨3, 3, 4, noB, noB⟩].foldl X.stepT psZero = q0 := by kernel_rfl
theorem zzD_lex (s : ByteArray) (hs : s.size ≤ 150) (h : (lexV s).2 = 0) : (lexV (zzD s)).2 = 0 ∧ (lexV (zzD s)).1.foldl X.stepT psZero = X.stepT ((lexV s).1.foldl X.stepT q0) ⟨5, 0, 5, zzB, noB⟩ := by
  obtain ⟨h1, h2, h3⟩ := lexV_ok s h
  have e1 := lexO_app zzO s _ _ zzO_lex h3 (Or.inr fun t ht => by
    have : t = ⟨3, 3, 4, noB, noB⟩ := (Option.some.inj ht).symm
    rw [this]; decide)
  have e2 := lexO_app (zzO ++ s) zzC _ _ e1 zzC_lex (Or.inl ⟨_, rfl⟩)
  have hv : validL (zzD s).data.toList = true := by
    unfold zzD
    rw [app_list, valid_append _ _ (by rw [app_list, valid_append _ _ (by kernel_rfl)]; exact h2)]
    kernel_rfl
  have hsz : (zzD s).size ≤ 65536 := by
    unfold zzD; rw [app_size, app_size, show zzO.size = 4 from rfl, show zzC.size = 5 from rfl]; omega
  rw [lexV_is (zzD s) _ hsz hv e2]
  refine ⟨rfl, ?_⟩
  rw [List.foldl_append, List.foldl_append, zz_q0, fold_sh, fold_sh]; rfl
def Out (a : Nat) (pre : List Nod) (preS : List ByteArray) (p q : PS) : Prop :=
  Pre a pre preS ∧ p.s.length = p.n.length ∧ q.s.length = q.n.length ∧ (∃ r rest tail, p.n = r :: rest ∧ r.f0 = 1 ∧ q.n = (pre ++ ({ r with f2 := 0 } :: rest.map (upN a))) ++ tail) ∧ ∃ tailS, q.s = (preS ++ p.s) ++ tailS
theorem nests_out (s : ByteArray) (hs : s.size ≤ 150) (h : (parseV s).2 = 0) : ∃ a pre preS p q, Out a pre preS p q ∧ parseV s = (((sortedP (namesOf p)).map bytesL, treeN p), 0) ∧
    parseV (zzD s) = (((sortedP (namesOf q)).map bytesL, treeN q), 0) ∧ p.n.length ≤ 300 ∧ Low p := by
  obtain ⟨hl, hp⟩ := parse_ok s h
  obtain ⟨hlow, hlen, x', m', hinv⟩ := run_ok s hl
  have hseg := lexV_seg s hl
  obtain ⟨hl2, hf2⟩ := zzD_lex s hs hl
  have hq : parseV (zzD s) = treeP (flushP ((lexV (zzD s)).1.foldl X.stepT psZero)) := by unfold parseV; rw [if_pos hl2]
  rw [hf2] at hq
  rw [hp] at h
  obtain ⟨t1, t2, t3, t4⟩ := tree_ok _ h
  rw [t4] at hp
  have hns0 : Ns psZero q0 := Or.inl ⟨rfl, rfl, rfl, rfl, rfl, rfl, rfl, rfl, rfl, rfl⟩
  have hns := ns_run _ _ _ _ _ _ psZero q0 0 0 hseg (lexV_vals s) (lexV_wide s) inv_zero (by omega) (by decide) (by omega) hns0 (wr_flush t1)
  obtain ⟨P, hP⟩ : ∃ P, (lexV s).1.foldl X.stepT psZero = P := ⟨_, rfl⟩
  obtain ⟨Q, hQ⟩ : ∃ Q, (lexV s).1.foldl X.stepT q0 = Q := ⟨_, rfl⟩
  rw [hP] at hinv hlow hp t1 t2 t3 hns
  rw [hQ] at hq hns
  obtain ⟨ko, kx, kd⟩ := flush_keeps P
  have hPo : P.o = [] := by rw [← ko]; exact t2
  have hPn : (flushP P).n = P.n ∧ (flushP P).s = P.s := by
    unfold flushP
    split
    · exact ⟨rfl, rfl⟩
    · rw [hPo, if_pos (by decide)]; exact ⟨rfl, rfl⟩
  rcases hns with hA | ⟨a, pre, preS, hB⟩
  · rw [hPn.1, hA.1] at t3; exact absurd t3 (by decide)
  obtain ⟨g1, ⟨r, rest, e1, e2, e3⟩, g3, g4, g5, g6, g7, g8, g9, g10⟩ := hB
  rw [hPo] at g5
  have g5 : Q.o = [0] := g5
  obtain ⟨tn, ts, f1, f2, f3, f4⟩ : ∃ tn ts, (flushP Q).n = Q.n ++ tn ∧ (flushP Q).s = Q.s ++ ts ∧ tn.length = ts.length ∧ tn.length ≤ 1 := by
    unfold flushP
    split
    · exact ⟨[], [], by simp, by simp, rfl, by simp⟩
    · rw [g5, if_neg (by decide)]
      refine ⟨_, _, rfl, rfl, rfl, Nat.le_refl _⟩
  have f5 : (flushP Q).wr = false := by
    unfold flushP
    split
    · exact g8
    · rw [g5, if_neg (by decide)]; exact g8
  obtain ⟨qo, qx, qd⟩ := flush_keeps Q
  have hE : X.stepT Q ⟨5, 0, 5, zzB, noB⟩ = ⟨(flushP Q).n, (flushP Q).s, [], noB, (flushP Q).dp, (flushP Q).wr⟩ := by
    show endP Q zzB = _
    unfold endP
    simp only
    rw [qo, g5, show topP [0] = 0 from rfl, if_neg]
    · rw [qx]; rfl
    · rintro (c | c)
      · exact absurd c (by decide)
      · apply c
        rw [f2, g3]
        rcases g1 with ⟨-, -, rfl⟩ | ⟨-, -, rfl⟩ <;> rfl
  have hF : flushP ⟨(flushP Q).n, (flushP Q).s, [], noB, (flushP Q).dp, (flushP Q).wr⟩ = ⟨(flushP Q).n, (flushP Q).s, [], noB, (flushP Q).dp, (flushP Q).wr⟩ := by
    show (if noB.data.toList = [] then _ else _) = _
    rw [if_pos rfl]
  rw [hE, hF] at hq
  have hql : (flushP Q).n.length ≤ 303 := by
    rw [f1, List.length_append, e3, List.length_append, List.length_cons, List.length_map, g1.len.1]
    have := hinv.2.1
    rw [e1, List.length_cons] at this
    have ha : a ≤ 2 := by rcases g1 with ⟨rfl, -⟩ | ⟨rfl, -⟩ <;> omega
    omega
  have hqq := tree_is ⟨(flushP Q).n, (flushP Q).s, [], noB, (flushP Q).dp, (flushP Q).wr⟩ f5 rfl (by show 0 < (flushP Q).n.length; rw [f1, e3]; simp; omega) (by show (flushP Q).dp = false; rw [qd]; exact g9) (by show (flushP Q).n.length ≤ 1000; omega)
  rw [hqq] at hq
  refine ⟨a, pre, preS, flushP P, ⟨(flushP Q).n, (flushP Q).s, [], noB, (flushP Q).dp, (flushP Q).wr⟩, ⟨g1, ?_, ?_, ⟨r, rest, tn, ?_, e2, ?_⟩, ts, ?_⟩, hp, hq, ?_, ?_⟩
  · rw [hPn.1, hPn.2]; exact g4
  · show (flushP Q).s.length = (flushP Q).n.length
    rw [f1, f2, e3, g3]
    simp only [List.length_append, List.length_cons, List.length_map, g1.len.1, g1.len.2, g4, e1, f3]
  · rw [hPn.1]; exact e1
  · show (flushP Q).n = _; rw [f1, e3]
  · show (flushP Q).s = _; rw [f2, g3, hPn.2]
  · rw [hPn.1]
    have := hinv.2.1
    omega
  · intro n hn; rw [hPn.1] at hn ⊢; exact hlow n hn
theorem Out.at_n {a : Nat} {pre : List Nod} {preS : List ByteArray} {p q : PS} (h : Out a pre preS p q) (i : Nat) (hi : i < p.n.length) :
    q.n.getD (i + a) nz = (if i = 0 then { p.n.getD i nz with f2 := 0 } else upN a (p.n.getD i nz)) ∧ i + a < q.n.length ∧ q.s.getD (i + a) ⟨#[]⟩ = p.s.getD i ⟨#[]⟩ := by
  obtain ⟨g1, g2, g3, ⟨r, rest, tail, e1, e2, e3⟩, ts, e4⟩ := h
  have hl := g1.len
  rw [e1, List.length_cons] at hi
  refine ⟨?_, ?_, ?_⟩
  · rw [e3, e1]
    simp only [List.getD_eq_getElem?_getD]
    rw [List.getElem?_append_left (by rw [List.length_append, List.length_cons, List.length_map]; omega), List.getElem?_append_right (by omega), hl.1, Nat.add_sub_cancel]
    cases i with
    | zero => rfl
    | succ i =>
      rw [if_neg (by omega), List.getElem?_cons_succ, List.getElem?_cons_succ, List.getElem?_map, List.getElem?_eq_getElem (by omega)]; rfl
  · rw [e3]; simp only [List.length_append, List.length_cons, List.length_map]; omega
  · rw [e4]
    simp only [List.getD_eq_getElem?_getD]
    rw [List.getElem?_append_left (by rw [List.length_append, g2, e1, List.length_cons]; omega), List.getElem?_append_right (by omega), hl.2, Nat.add_sub_cancel]
end Go.Proofs.Ytlhhhlimjajnlaa.P13
end
