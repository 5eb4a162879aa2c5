/- Parts of the proof of parserTrees_holds, kept and merged by a program of mine (wip/tools/slim.py) out of my texts: ParK ParM P13b P13c P13d Fit FitN -/
import Derived.Sort.KeysCollected
import Derived.Test.YtlhhhlimjajnlaaGreatSPt17
import Derived.Test.YtlhhhlimjajnlaaGreatSPt14
import Derived.Test.YtlhhhlimjajnlaaGreatSPt5
import Derived.Test.YtlhhhlimjajnlaaGreatSPt9
section
set_option linter.unusedVariables false
set_option linter.unusedSimpArgs false
namespace Go.Proofs.YtlhhhlimjajnlaaGreat.X
open Go Go.RowKit Go.Maps Go.Sort Go.Proofs.YtlhhhlimjajnlaaGreat Go.Proofs.YtlhhhlimjajnlaaGreat.Q Go.Proofs.YtlhhhlimjajnlaaGreatW.PrintWords
theorem mem_onceP : ∀ (l : List (List UInt8)) (x : List UInt8), x ∈ onceP l ↔ x ∈ l
 | [], x => by simp [onceP]
 | a :: t, x => by
  unfold onceP
  by_cases h : t.contains a = true
  ·rw [if_pos h, mem_onceP t x, List.mem_cons]
   constructor
   ·exact Or.inr
   ·rintro (rfl | h')
    ·simpa using h
    ·exact h'
  ·rw [if_neg h, List.mem_cons, List.mem_cons, mem_onceP t x]
theorem nodup_onceP : ∀ l : List (List UInt8), (onceP l).Nodup
 | [] => List.nodup_nil
 | a :: t => by
  unfold onceP
  by_cases h : t.contains a = true
  ·rw [if_pos h]; exact nodup_onceP t
  ·rw [if_neg h, List.nodup_cons]
   refine ⟨fun hm => h ?_, nodup_onceP t⟩
   simpa using (mem_onceP t a).1 hm
theorem keysTo_all (p : PS) : keysTo p (p.n.zip p.s).length = (namesOf p).map Lit.string := by
 unfold keysTo namesOf
 rw [List.take_length]
 induction p.n.zip p.s with
 | nil => rfl
 | cons c t ih =>
  rw [List.filterMap_cons, List.filterMap_cons]
  by_cases h : c.1.f0 = 3
  ·simp only [h, if_true]; exact ih
  ·simp only [h, if_false, List.map_cons]; rw [ih]
theorem keys_are (ks : List (List UInt8)) (u : DataW Unit) : ∃ es, setOf u (ks.map Lit.string) = .map es ∧ es.Pairwise (fun p q => p.1 ≠ q.1) := tidy_setOf u _ (by
 intro x hx
 obtain ⟨s, _, rfl⟩ := List.mem_map.1 hx
 trivial)
theorem has_keys (ks : List (List UInt8)) (u : DataW Unit) (x : List UInt8) : has (setOf u (ks.map Lit.string)) (.string x) = ks.contains x := by
 rw [has_setOf u _ _ (by
  intro x hx
  obtain ⟨s, _, rfl⟩ := List.mem_map.1 hx
  trivial), Bool.eq_iff_iff, List.any_eq_true, List.contains_iff_mem]
 constructor
 ·rintro ⟨y, hy, hs⟩
  obtain ⟨s, hs', rfl⟩ := List.mem_map.1 hy
  have : (s == x) = true := hs
  rw [← eq_of_beq this]; exact hs'
 ·intro hx
  exact ⟨_, List.mem_map.2 ⟨x, hx, rfl⟩, by show (x == x) = true; exact beq_self_eq_true x⟩
theorem sorted_names {W : World} {mb cnt : Nat} {ks : List (List UInt8)} {u : DataW Unit} (h : W.ownsMap Tryz.prog 9 RI mb cnt (setOf u (ks.map Lit.string))) {ss : List (List UInt8)} (hp : ss.Perm (strKeys (setOf u (ks.map Lit.string)))) :
 (ss.mergeSort fun x y => decide (x ≤ y)) = sortedP ks ∧ ss.length = (sortedP ks).length := by
 obtain ⟨es, he, hpw⟩ := keys_are ks u
 obtain ⟨es', he', hk⟩ := h.keysOf
 have hes : es = es' := by rw [he] at he'; injection he'
 subst hes
 have hperm : (onceP ks).Perm (strKeys (setOf u (ks.map Lit.string))) := by
  rw [he]
  refine perm_strKeys hpw (fun q hq => ?_) (nodup_onceP ks) (fun x => ?_)
  ·obtain ⟨v, hv⟩ := hk q hq
   obtain ⟨s, _, hs, _⟩ := WideMaps.string_of_keyOf (P := Tryz.prog) Tryz.underlying9 hv
   exact ⟨_, hs⟩
  ·rw [← he, has_keys, List.contains_iff_mem, mem_onceP]
 have h2 := mergeSort_of_perm (hp.trans hperm.symm)
 refine ⟨h2, ?_⟩
 unfold sortedP
 rw [List.length_mergeSort]
 exact (hp.trans hperm.symm).length_eq
def numTo (p : PS) (names : List (List UInt8)) (k : Nat) : List Nod := ((p.n.zip p.s).take k).map (fun c => numbered names c.1 c.2) ++ p.n.drop k
theorem numTo_zero (p : PS) (names : List (List UInt8)) : numTo p names 0 = p.n := by simp [numTo]
theorem numTo_len (p : PS) (names : List (List UInt8)) (k : Nat) (hs : p.s.length = p.n.length) (hk : k ≤ p.n.length) : (numTo p names k).length = p.n.length := by
 simp [numTo, List.length_zip]; omega
theorem numTo_all (p : PS) (names : List (List UInt8)) (hs : p.s.length = p.n.length) : numTo p names p.n.length = (p.n.zip p.s).map fun c => numbered names c.1 c.2 := by
 unfold numTo
 rw [List.drop_length, List.append_nil, List.take_of_length_le (by rw [List.length_zip]; omega)]
theorem numTo_at (p : PS) (names : List (List UInt8)) (k : Nat) (hs : p.s.length = p.n.length) (hk : k < p.n.length) : (numTo p names k).getD k ⟨0, 0, 0, ⟨#[]⟩⟩ = p.n.getD k ⟨0, 0, 0, ⟨#[]⟩⟩ := by
 unfold numTo
 have hl : (((p.n.zip p.s).take k).map (fun c => numbered names c.1 c.2)).length = k := by
  rw [List.length_map, List.length_take, List.length_zip]; omega
 rw [List.getD_eq_getElem?_getD, List.getD_eq_getElem?_getD, List.getElem?_append_right (by omega), hl, Nat.sub_self, List.getElem?_drop, Nat.add_zero]
theorem numTo_succ (p : PS) (names : List (List UInt8)) (k : Nat) (hs : p.s.length = p.n.length) (hk : k < p.n.length) :
 numTo p names (k + 1) = (numTo p names k).set k (numbered names (p.n.getD k ⟨0, 0, 0, ⟨#[]⟩⟩) (p.s.getD k ⟨#[]⟩)) := by
 have hz : k < (p.n.zip p.s).length := by rw [List.length_zip]; omega
 have hl : (((p.n.zip p.s).take k).map (fun c => numbered names c.1 c.2)).length = k := by
  rw [List.length_map, List.length_take, List.length_zip]; omega
 unfold numTo
 rw [List.set_append_right _ _ (by omega), hl, Nat.sub_self, List.drop_eq_getElem_cons hk, List.set_cons_zero, List.take_succ_eq_append_getElem hz, List.map_append, List.append_assoc]
 congr 1
 rw [List.map_singleton, List.singleton_append, List.getElem_zip]
 simp only [List.getD_eq_getElem?_getD, List.getElem?_eq_getElem hk, List.getElem?_eq_getElem (show k < p.s.length by omega), Option.getD_some]
theorem numTo_skip (p : PS) (names : List (List UInt8)) (k : Nat) (hs : p.s.length = p.n.length) (hk : k < p.n.length) (h3 : (p.n.getD k ⟨0, 0, 0, ⟨#[]⟩⟩).f0 = 3) : numTo p names (k + 1) = numTo p names k := by
 rw [numTo_succ p names k hs hk]
 unfold numbered
 rw [if_pos h3, ← numTo_at p names k hs hk, List.getD_eq_getElem?_getD, List.getElem?_eq_getElem (by rw [numTo_len p names k hs (by omega)]; exact hk), Option.getD_some]
 exact List.set_getElem_self _
def J3 (w0 : World) (g nb bb mb tb cnt : Nat) (D : DataW Unit) (v1 v2 v3 vN : Value) (p : PS) (names : List (List UInt8)) (k : Nat) (W : World) : Prop :=
 W.cell? ⟨bb, 0, none⟩ = some (.pointer (some ⟨g, 0, none⟩)) ∧ W.cell? ⟨nb, 0, none⟩ = some (.map (some mb)) ∧ Bd w0 W g v1 v2 v3 { p with n := numTo p names k } ∧ W.ownsMap Tryz.prog 9 RI mb cnt D ∧
  W.heap[tb]? = some (.cells #[.slice none 0 0, .slice none 0 0] 27 (0, 0)) ∧ Kd.R Kd.string 9 W w0.heap.size (fun _ => True) vN (names.map bytesL)
theorem number_c {w0 W0 : World} {g nb bb mb tb ga gn c1 c2 cnt : Nat} {D : DataW Unit} {v3 vN : Value} {p : PS} {names : List (List UInt8)} (hl : p.n.length ≤ 1000000) (hs : p.s.length = p.n.length) (hx : ∀ s, s ∈ p.s → s.size ≤ maxLen) (hne : ∀ b, b = bb ∨ b = nb ∨ b = mb ∨ b = tb → b ≠ ga)
 (hnm : ∀ k, k < p.n.length → ¬ (p.n.getD k ⟨0, 0, 0, ⟨#[]⟩⟩).f0 = 3 → (p.s.getD k ⟨#[]⟩).data.toList ∈ names) (hD : ∀ j, j < names.length → ∀ z, D.atKey (.string (names.getD j [])) z = .lit (.int .i64 j))
 (h0 : J3 w0 g nb bb mb tb cnt D (.slice (some ⟨ga, 0, none⟩) p.n.length c1) (.slice (some ⟨gn, 0, none⟩) p.s.length c2) v3 vN p names 0 W0) :
 Calls Tryz.prog 60 #[.func (.func 64) #[] #[.pointer (some ⟨nb, 0, none⟩), .pointer (some ⟨bb, 0, none⟩)], .pointer (some ⟨bb, 0, none⟩)] W0 fun e w' => e = .returned (.tuple #[]) ∧ J3 w0 g nb bb mb tb cnt D (.slice (some ⟨ga, 0, none⟩) p.n.length c1) (.slice (some ⟨gn, 0, none⟩) p.s.length c2) v3 vN p names p.n.length w' := by
 refine each3_c (g := g) (bb := bb) (ga := ga) (c1 := c1) _ _ p.n (J3 w0 g nb bb mb tb cnt D (.slice (some ⟨ga, 0, none⟩) p.n.length c1) (.slice (some ⟨gn, 0, none⟩) p.s.length c2) v3 vN p names) hl ?_ ?_ ?_ ?_ ?_ h0
 ·rintro k W ⟨j1, j2, j3, -⟩
  exact ⟨j1, j3.c0⟩
 ·rintro k W ⟨j1, j2, j3, -⟩ hk
  have hlen := numTo_len p names k hs (by omega)
  have hC := (Kd.R_reads' j3.r1).2.2
  obtain ⟨ad, he, r0, r1, r2, r3⟩ := at_T41 hC (k : Int) (by omega) (by show (k : Int) < ((numTo p names k).length : Int); omega)
  cases he
  have hrd : rd_T41 (numTo p names k) (k : Int) = p.n.getD k ⟨0, 0, 0, ⟨#[]⟩⟩ := by
   rw [← numTo_at p names k hs hk]
   unfold rd_T41
   rw [Int.toNat_natCast, List.getD_eq_getElem?_getD, List.getD_eq_getElem?_getD, List.getElem?_eq_getElem (by omega)]; rfl
  have ea : (⟨ga, 0, none⟩ : Addr).add ((k : Int).toNat * 4) = ⟨ga, k * 4, none⟩ := by simp [Addr.add]; omega
  rw [show ({ p with n := numTo p names k } : PS).n = numTo p names k from rfl, hrd, ea] at r0 r1 r2 r3
  exact ⟨_, r0, r1, r2, r3⟩
 ·rintro k W W' ⟨j1, j2, j3, j4, j5, j6⟩ hb
  have g1 := W.block_lt_of_cell? _ j1
  have g2 := W.block_lt_of_cell? _ j2
  have gr : W.grownBy W' none := ⟨hb.os, hb.tape, hb.output, hb.size, fun k hk _ => hb.block k hk⟩
  exact ⟨(hb.cell g1).trans j1, (hb.cell g2).trans j2, j3.below hb, j4.kept gr (by simp), blk_below j5 hb, Kd.R_below j6 hb⟩
 ·rintro k W ⟨j1, j2, j3, j4, j5, j6⟩ hk h3
  exact ⟨j1, j2, by rw [numTo_skip p names k hs hk h3]; exact j3, j4, j5, j6⟩
 ·rintro k W ⟨j1, j2, j3, j4, j5, j6⟩ hk h3
  have hlen := numTo_len p names k hs (by omega)
  have hC2 := (Kd.R_reads' j3.r2).2.2
  obtain ⟨ad2, he2, hcell⟩ := Kd.at_string hC2 (k : Int) (by omega) (by show (k : Int) < (p.s.length : Int); omega)
  cases he2
  have hS : rdOf ByteArray.empty p.s (k : Int) = p.s.getD k ⟨#[]⟩ := by
   unfold rdOf
   rw [Int.toNat_natCast, List.getD_eq_getElem?_getD, List.getD_eq_getElem?_getD, List.getElem?_eq_getElem (by omega)]; rfl
  have ea2 : (⟨gn, 0, none⟩ : Addr).add ((k : Int).toNat) = ⟨gn, k, none⟩ := by simp [Addr.add]; omega
  have hcell : W.cell? ⟨gn, k, none⟩ = some (.string (p.s.getD k ⟨#[]⟩)) := by rw [← hS, ← ea2]; exact hcell
  have hmem : p.s.getD k ⟨#[]⟩ ∈ p.s := by
   rw [List.getD_eq_getElem?_getD, List.getElem?_eq_getElem (by omega)]
   exact List.getElem_mem _
  have hC := (Kd.R_reads' j3.r1).2.2
  obtain ⟨ad, he, -, r1, -, -⟩ := at_T41 hC (k : Int) (by omega) (by show (k : Int) < ((numTo p names k).length : Int); omega)
  cases he
  have ea : (⟨ga, 0, none⟩ : Addr).add ((k : Int).toNat * 4) = ⟨ga, k * 4, none⟩ := by simp [Addr.add]; omega
  rw [ea] at r1
  obtain ⟨cells, hcells⟩ := Kd.R_typed j3.r1 ga (by simp [Value.ownBlock])
  have hin := hnm k hk h3
  obtain ⟨z, hz⟩ : ∃ z, names.idxOf (p.s.getD k ⟨#[]⟩).data.toList = z := ⟨_, rfl⟩
  have hzl : z < names.length := by rw [← hz]; exact List.idxOf_lt_length_of_mem hin
  have hzn : names.getD z [] = (p.s.getD k ⟨#[]⟩).data.toList := by
   rw [List.getD_eq_getElem?_getD, List.getElem?_eq_getElem hzl, Option.getD_some]
   subst hz
   exact List.getElem_idxOf _
  have hat := hD z hzl
  rw [hzn] at hat
  refine (do3_c (g := g) (gn := gn) (n2 := p.s.length) (c2 := c2) (ga := ga) (n1 := p.n.length) (c1 := c1) (z := (z : Int)) j2 j1 j3.c1 (by omega) hcell (hx _ hmem) j4 j3.c0 hk r1 (blk_frozen hcells _) hat).mono ?_
  rintro e w' ⟨rfl, n, rfl⟩
  obtain ⟨hr', hg'⟩ := node_set (Kd.R_drewN j3.r1 n) k (by exact hk) (z : Int)
  have hga : ∀ kk, (Value.slice (some ⟨ga, 0, none⟩) p.n.length c1).ownBlock = some kk → kk = ga := by
   intro kk hkk
   simp [Value.ownBlock] at hkk
   exact hkk.symm
  have hgne : some g ≠ some ga := fun e => j3.n1 (by rw [e]; simp [Value.ownBlock])
  have hap : ∀ {α : Type} {d' : Kd α} {e' b' : Nat} {ok' : Nat → Prop} {u : Value} {ys : List α}, d'.R e' W b' ok' u ys → e' ≠ 41 → ∀ kk, some ga = some kk → some kk ≠ u.ownBlock := by
   intro α d' e' b' ok' u ys hR hne' kk hkk
   injection hkk with hkk
   subst hkk
   exact rows_apart j3.r1 hR hne' ga (by simp [Value.ownBlock])
  have hbase : w0.heap.size ≤ ga := Kd.R_base j3.r1 ga (by simp [Value.ownBlock])
  have hnew : (numTo p names k).set k { (numTo p names k).getD k ⟨0, 0, 0, ⟨#[]⟩⟩ with f1 := (z : Int) } = numTo p names (k + 1) := by
   rw [numTo_succ p names k hs hk, numTo_at p names k hs hk]
   unfold numbered
   rw [if_neg h3, hz]
  refine ⟨rfl, ?_, ?_, ⟨?_, j3.ge, ?_, ?_, ?_, ?_⟩, ?_, ?_, ?_⟩
  ·exact hg'.cell (a := ⟨bb, 0, none⟩) (by exact j1) (by intro e; injection e with e; exact hne bb (Or.inl rfl) e)
  ·exact hg'.cell (a := ⟨nb, 0, none⟩) (by exact j2) (by intro e; injection e with e; exact hne nb (Or.inr (Or.inl rfl)) e)
  ·exact blk_grown (blk_drewN j3.blk n) hg' hgne
  ·rw [← hnew]; exact hr'
  ·exact Kd.R_grown2 (Kd.R_drewN j3.r2 n) rfl hg' (hap j3.r2 (by decide))
  ·exact Kd.R_grown2 (Kd.R_drewN j3.r3 n) rfl hg' (hap j3.r3 (by decide))
  ·exact (pw_below_drewN j3.bel n).setCell (p := ⟨ga, k * 4 + 1, none⟩) hbase _
  ·exact World.ownsMap.kept (show (W.drewN n).ownsMap Tryz.prog 9 RI mb cnt D from j4) hg' (by intro e; injection e with e; exact hne mb (Or.inr (Or.inr (Or.inl rfl))) e)
  ·exact blk_grown (blk_drewN j5 n) hg' (by intro e; injection e with e; exact hne tb (Or.inr (Or.inr (Or.inr rfl))) e)
  ·exact Kd.R_grown2 (Kd.R_drewN j6 n) rfl hg' (hap j6 (by decide))
theorem name_in (p : PS) (hs : p.s.length = p.n.length) (k : Nat) (hk : k < p.n.length) (h3 : ¬ (p.n.getD k ⟨0, 0, 0, ⟨#[]⟩⟩).f0 = 3) : (p.s.getD k ⟨#[]⟩).data.toList ∈ sortedP (namesOf p) := by
 unfold sortedP
 refine (List.mergeSort_perm _ _).mem_iff.2 ((mem_onceP _ _).2 ?_)
 unfold namesOf
 have hz : k < (p.n.zip p.s).length := by rw [List.length_zip]; omega
 refine List.mem_filterMap.2 ⟨(p.n.zip p.s)[k], List.getElem_mem hz, ?_⟩
 rw [List.getElem_zip]
 rw [List.getD_eq_getElem?_getD, List.getElem?_eq_getElem hk, Option.getD_some] at h3
 rw [List.getD_eq_getElem?_getD, List.getElem?_eq_getElem (show k < p.s.length by omega), Option.getD_some, if_neg h3]
end Go.Proofs.YtlhhhlimjajnlaaGreat.X
end
section
set_option linter.unusedVariables false
set_option linter.unusedSimpArgs false
namespace Go.Proofs.YtlhhhlimjajnlaaGreat.P13
open Go.RowKit Go.Proofs.YtlhhhlimjajnlaaGreat Go.Proofs.YtlhhhlimjajnlaaGreat.Q Go.Proofs.YtlhhhlimjajnlaaGreat.P11 Go.Proofs.YtlhhhlimjajnlaaGreat.P12 Go.Proofs.YtlhhhlimjajnlaaGreatW.PrintWords Go.Proofs.YtlhhhlimjajnlaaGreat.X
def treeN (p : PS) : List Nod := (p.n.zip p.s).map fun c => numbered (sortedP (namesOf p)) c.1 c.2
abbrev nz : Nod := ⟨0, 0, 0, ⟨#[]⟩⟩
theorem treeN_len (p : PS) (h : p.s.length = p.n.length) : (treeN p).length = p.n.length := by
 unfold treeN; rw [List.length_map, List.length_zip, h, Nat.min_self]
theorem treeN_at (p : PS) (h : p.s.length = p.n.length) (i : Nat) (hi : i < p.n.length) : (treeN p).getD i nz = numbered (sortedP (namesOf p)) (p.n.getD i nz) (p.s.getD i ⟨#[]⟩) := by
 unfold treeN
 simp only [List.getD_eq_getElem?_getD, List.getElem?_map]
 rw [List.getElem?_eq_getElem (show i < (p.n.zip p.s).length by rw [List.length_zip]; omega), List.getElem?_eq_getElem hi, List.getElem?_eq_getElem (show i < p.s.length by omega)]
 simp
theorem mem_names (p : PS) (h : p.s.length = p.n.length) (i : Nat) (hi : i < p.n.length) (h3 : ¬ (p.n.getD i nz).f0 = 3) : (p.s.getD i ⟨#[]⟩).data.toList ∈ namesOf p := by
 unfold namesOf
 rw [List.mem_filterMap]
 refine ⟨(p.n.getD i nz, p.s.getD i ⟨#[]⟩), ?_, by simp only; rw [if_neg h3]⟩
 rw [List.getD_eq_getElem?_getD, List.getD_eq_getElem?_getD, List.getElem?_eq_getElem hi, List.getElem?_eq_getElem (show i < p.s.length by omega)]
 show (p.n[i], p.s[i]) ∈ _
 have : (p.n.zip p.s)[i]'(by rw [List.length_zip]; omega) = (p.n[i], p.s[i]) := List.getElem_zip
 rw [← this]; exact List.getElem_mem _
theorem mem_sorted (l : List (List UInt8)) (x : List UInt8) : x ∈ sortedP l ↔ x ∈ l := by
 unfold sortedP; rw [List.mem_mergeSort, mem_onceP]
theorem bytesL_data (s : ByteArray) : bytesL s.data.toList = s := by unfold bytesL; apply ByteArray.ext; simp
theorem once_len : ∀ l : List (List UInt8), (onceP l).length ≤ l.length
 | [] => Nat.le_refl _
 | a :: t => by
  unfold onceP
  have := once_len t
  split
  ·rw [List.length_cons]; omega
  ·rw [List.length_cons, List.length_cons]; omega
theorem names_len (p : PS) : (sortedP (namesOf p)).length ≤ p.n.length := by
 unfold sortedP
 rw [List.length_mergeSort]
 refine Nat.le_trans (once_len _) ?_
 unfold namesOf
 refine Nat.le_trans (List.length_filterMap_le _ _) ?_
 rw [List.length_zip]; omega
theorem tree_ok (p : PS) (h : (treeP p).2 = 0) : p.wr = false ∧ p.o = [] ∧ 0 < p.n.length ∧ treeP p = (((sortedP (namesOf p)).map bytesL, treeN p), 0) := by
 unfold treeP at h ⊢
 by_cases c : p.wr = true ∨ 0 < p.o.length ∨ p.n.length = 0
 ·rw [if_pos c] at h; exact absurd h (by decide)
 ·rw [if_neg c] at h ⊢
  by_cases c2 : p.dp = true ∨ 5000 < p.n.length ∨ 1000 < (sortedP (namesOf p)).length
  ·rw [if_pos c2] at h; exact absurd h (by decide)
  ·rw [if_neg c2]
   refine ⟨?_, ?_, ?_, rfl⟩
   ·cases hw : p.wr with
    | true => exact absurd (Or.inl hw) c
    | false => rfl
   ·cases ho : p.o with
    | nil => rfl
    | cons a b => exact absurd (Or.inr (Or.inl (by rw [ho]; simp))) c
   ·exact Nat.pos_of_ne_zero fun e => c (Or.inr (Or.inr e))
theorem wr_flush {p : PS} (h : (flushP p).wr = false) : p.wr = false := by
 unfold flushP at h
 split at h
 ·exact h
 split at h
 ·simp only [Bool.or_eq_false_iff] at h; exact h.1
 ·exact h
theorem wr_end {p : PS} {name : ByteArray} (h : (endP p name).wr = false) : ¬ topP p.o < 0 ∧ (flushP p).wr = false ∧ ((flushP p).s.getD (topP p.o).toNat ⟨#[]⟩).data.toList = name.data.toList ∧ endP p name = { flushP p with o := p.o.dropLast } := by
 have ho : (flushP p).o = p.o := by unfold flushP; split; rfl; split <;> rfl
 unfold endP at h ⊢
 simp only at h ⊢
 rw [ho] at h ⊢
 by_cases c : topP p.o < 0 ∨ ¬ ((flushP p).s.getD (topP p.o).toNat ⟨#[]⟩).data.toList = name.data.toList
 ·rw [if_pos c] at h; exact absurd h (by simp)
 ·rw [if_neg c] at h ⊢
  exact ⟨fun e => c (Or.inl e), h, Classical.byContradiction fun e => c (Or.inr e), rfl⟩
theorem wr_begin {p : PS} {name : ByteArray} (h : (beginP p name).wr = false) : (flushP p).wr = false ∧ ¬ (topP p.o < 0 ∧ 0 < (flushP p).n.length) := by
 have ho : (flushP p).o = p.o := by unfold flushP; split; rfl; split <;> rfl
 have h : ((flushP p).wr || (decide (topP (flushP p).o < 0) && decide (0 < (flushP p).n.length))) = false := h
 rw [ho] at h
 simp only [Bool.or_eq_false_iff, Bool.and_eq_false_iff, decide_eq_false_iff_not] at h
 exact ⟨h.1, fun c => by rcases h.2 with h | h; exact h c.1; exact h c.2⟩
theorem wr_step {p : PS} {t : Tok} (h : (X.stepT p t).wr = false) : p.wr = false := by
 unfold X.stepT at h
 repeat' split at h
 ·exact h
 ·exact h
 ·exact wr_flush (wr_begin h).1
 ·unfold attrS putP at h; simp only [Bool.or_eq_false_iff] at h; exact h.1
 ·exact wr_flush (wr_end h).2.1
 ·exact wr_flush (wr_end h).2.1
 ·exact h
theorem wr_run : ∀ (l : List Tok) {p : PS}, (l.foldl X.stepT p).wr = false → p.wr = false
 | [], p, h => h
 | t :: l, p, h => wr_step (wr_run l h)
abbrev zzB : ByteArray := ⟨#[122, 122]⟩
abbrev noB : ByteArray := ⟨#[]⟩
abbrev rootN : Nod := ⟨1, 0, -1, noB⟩
def q0 : PS :=⟨[rootN], [zzB], [0], noB, false, false⟩
def upN (at_ : Int) (n : Nod) : Nod := { n with f2 := n.f2 + at_ }
def Pre (at_ : Nat) (pre : List Nod) (preS : List ByteArray) : Prop := (at_ = 1 ∧ pre = [rootN] ∧ preS = [zzB]) ∨ (at_ = 2 ∧ (∃ x, pre = [rootN, ⟨3, -1, 0, x⟩]) ∧ preS = [zzB, noB])
theorem Pre.len {a : Nat} {pre : List Nod} {preS : List ByteArray} (h : Pre a pre preS) : pre.length = a ∧ preS.length = a := by
 rcases h with ⟨rfl, rfl, rfl⟩ | ⟨rfl, ⟨x, rfl⟩, rfl⟩ <;> exact ⟨rfl, rfl⟩
def NsB (a : Nat) (pre : List Nod) (preS : List ByteArray) (p q : PS) : Prop :=
 Pre a pre preS ∧ (∃ r rest, p.n = r :: rest ∧ r.f0 = 1 ∧ q.n = pre ++ ({ r with f2 := 0 } :: rest.map (upN a))) ∧ q.s = preS ++ p.s ∧ p.s.length = p.n.length ∧ q.o = 0 :: p.o.map (· + (a : Int)) ∧ q.x = p.x ∧ p.wr = false ∧ q.wr = false ∧ q.dp = false ∧ ∀ z, z ∈ p.o → 0 ≤ z
theorem topP_up (o : List Int) (a : Int) (h : o ≠ []) : topP (0 :: o.map (· + a)) = topP o + a := by
 rcases List.eq_nil_or_concat o with h' | ⟨pre, z, h'⟩
 ·exact absurd h' h
 ·rw [h', List.concat_eq_append, show (0 :: (pre ++ [z]).map (· + a)) = (0 :: pre.map (· + a)) ++ [z + a] from by simp]
  unfold topP
  rw [List.getLast?_concat, List.getLast?_concat]; rfl
theorem topP_pos {o : List Int} (h : o ≠ []) (hz : ∀ z, z ∈ o → 0 ≤ z) : 0 ≤ topP o := hz _ (topP_in o h)
theorem NsB.put {a : Nat} {pre : List Nod} {preS : List ByteArray} {p q : PS} (h : NsB a pre preS p q) (ho : p.o ≠ []) (k nm : Int) (v name : ByteArray) : NsB a pre preS (putP p k nm v name) (putP q k nm v name) := by
 obtain ⟨hp, ⟨r, rest, e1, e2, e3⟩, h3, h4, h5, h6, h7, h8, h9, h10⟩ := h
 refine ⟨hp, ⟨r, rest ++ [⟨k, nm, topP p.o, v⟩], ?_, e2, ?_⟩, ?_, ?_, h5, h6, h7, h8, h9, h10⟩
 ·show p.n ++ _ = _; rw [e1]; rfl
 ·show q.n ++ [⟨k, nm, topP q.o, v⟩] = _
  rw [e3, h5, topP_up _ _ ho, List.map_append, List.append_assoc]; rfl
 ·show q.s ++ _ = preS ++ (p.s ++ _); rw [h3, List.append_assoc]
 ·show (p.s ++ _).length = (p.n ++ _).length; rw [List.length_append, List.length_append, h4]; rfl
theorem NsB.flush {a : Nat} {pre : List Nod} {preS : List ByteArray} {p q : PS} (h : NsB a pre preS p q) (ho : p.o ≠ []) : NsB a pre preS (flushP p) (flushP q) := by
 have hx := h.2.2.2.2.2.1
 have h5 := h.2.2.2.2.1
 have h10 := h.2.2.2.2.2.2.2.2.2
 have hp := topP_pos ho h10
 have hup := topP_up p.o a ho
 rw [← h5] at hup
 have hE : NsB a pre preS { p with x := noB } { q with x := noB } := by
  obtain ⟨g1, g2, g3, g4, g5, g6, g7, g8, g9, g10⟩ := h
  exact ⟨g1, g2, g3, g4, g5, rfl, g7, g8, g9, g10⟩
 unfold flushP
 rw [hx]
 by_cases c : p.x.data.toList = []
 ·rw [if_pos c, if_pos c]; exact hE
 ·rw [if_neg c, if_neg c, if_neg (by omega), if_neg (by omega)]
  exact hE.put ho 3 (-1) p.x noB
theorem flush_keeps (p : PS) : (flushP p).o = p.o ∧ (flushP p).x = noB ∧ (flushP p).dp = p.dp := by
 unfold flushP; split
 ·exact ⟨rfl, rfl, rfl⟩
 split
 ·exact ⟨rfl, rfl, rfl⟩
 ·exact ⟨rfl, rfl, rfl⟩
theorem parse_ok (s : ByteArray) (h : (parseV s).2 = 0) : (lexV s).2 = 0 ∧ parseV s = treeP (flushP ((lexV s).1.foldl X.stepT psZero)) := by
 unfold parseV at h ⊢
 by_cases c : (lexV s).2 = 0
 ·rw [if_pos c]; exact ⟨c, rfl⟩
 ·rw [if_neg c] at h; exact absurd h c
end Go.Proofs.YtlhhhlimjajnlaaGreat.P13
end
section
set_option linter.unusedVariables false
set_option linter.unusedSimpArgs false
namespace Go.Proofs.YtlhhhlimjajnlaaGreat.Ck
open Go.RowKit Go.Proofs.YtlhhhlimjajnlaaGreat Go.Proofs.YtlhhhlimjajnlaaGreat.Q Go.Proofs.YtlhhhlimjajnlaaGreat.P11 Go.Proofs.YtlhhhlimjajnlaaGreat.P12 Go.Proofs.YtlhhhlimjajnlaaGreatW.PrintWords Go.Proofs.YtlhhhlimjajnlaaGreat.X Go.Proofs.YtlhhhlimjajnlaaGreat.P13
section
variable {κ : Type}
theorem kids_snoc (l : List (Nd × κ)) (c : Nd × κ) (p : Int) : kids (l ++ [c]) p = if c.1.f2 = p then kids l p ++ [c] else kids l p := by
 unfold kids
 rw [List.filter_append]
 by_cases h : c.1.f2 = p
 ·rw [if_pos h, List.filter_cons_of_pos (by simpa using h)]; rfl
 ·rw [if_neg h, List.filter_cons_of_neg (by simpa using h)]; simp
theorem text_snoc (l : List (Nd × κ)) (c : Nd × κ) (p : Int) : textLast (l ++ [c]) p = if c.1.f2 = p then decide (c.1.f0 = 3) else textLast l p := by
 unfold textLast
 rw [kids_snoc]
 by_cases h : c.1.f2 = p
 ·rw [if_pos h, if_pos h, List.getLast?_concat]
 ·rw [if_neg h, if_neg h]
variable [DecidableEq κ]
theorem rows_low (l : List (Nd × κ)) (op : List Int) (h : rows l = some op) (i : Nat) (c : Nd × κ) (hc : l[i]? = some c) :
 ∃ o o', rows (l.take i) = some o ∧ right (l.take i) o c.1 c.2 = some o' ∧ (i = 0 → c.1.f0 = 1 ∧ c.1.f2 = -1) ∧ (0 < i → 0 ≤ c.1.f2 ∧ c.1.f2 < (i : Int) ∧ c.1.f2 ∈ o ∧ ∃ d, l[c.1.f2.toNat]? = some d ∧ d.1.f0 = 1) := by
 obtain ⟨hi, rfl⟩ := List.getElem?_eq_some_iff.1 hc
 have hsp : l = l.take i ++ l[i] :: l.drop (i + 1) := by rw [List.getElem_cons_drop, List.take_append_drop]
 rw [hsp] at h
 obtain ⟨o, o', h1, h2, h3⟩ := rows_at _ _ _ _ h
 obtain ⟨p1, p2⟩ := rows_path _ _ _ rfl h1
 refine ⟨o, o', h1, h2, fun h0 => ?_, fun h0 => ?_⟩
 ·subst h0
  unfold right at h2
  rw [if_pos (by simp)] at h2
  split at h2
  ·rename_i hc; exact hc
  ·cases h2
 ·have hne : ¬ l.take i = [] := by
   intro e
   have := congrArg List.length e
   rw [List.length_take, List.length_nil] at this; omega
  unfold right at h2
  rw [if_neg hne] at h2
  by_cases hm : l[i].1.f2 ∈ o
  ·have hj := List.idxOf_lt_length_of_mem hm
   have hz : o[o.idxOf l[i].1.f2]? = some l[i].1.f2 := by rw [List.getElem?_eq_getElem hj, List.getElem_idxOf]
   obtain ⟨q1, q2, ⟨d, q3, q4, -⟩, -⟩ := p1 _ _ hz
   rw [List.length_take] at q2
   refine ⟨q1, by omega, hm, d, ?_, q4⟩
   rw [List.getElem?_take_of_lt (by omega)] at q3; exact q3
  ·rw [if_neg hm] at h2; cases h2
theorem kids_behind (l : List (Nd × κ)) (op : List Int) (h : rows l = some op) (p : Int) (hp : 0 ≤ p) (c : Nd × κ) (hc : c ∈ kids l p) : ∃ i : Nat, l[i]? = some c ∧ p < (i : Int) ∧ c.1.f2 = p := by
 unfold kids at hc
 rw [List.mem_filter] at hc
 obtain ⟨hm, hq⟩ := hc
 have hq : c.1.f2 = p := by simpa using hq
 obtain ⟨i, hi⟩ := List.mem_iff_getElem?.1 hm
 obtain ⟨o, o', -, -, r1, r2⟩ := rows_low l op h i c hi
 refine ⟨i, hi, ?_, hq⟩
 rcases Nat.eq_zero_or_pos i with h0 | h0
 ·have := (r1 h0).2; omega
 ·have := (r2 h0).2.1; omega
theorem kids_none (l : List (Nd × κ)) (op : List Int) (h : rows l = some op) : kids l (l.length : Int) = [] := by
 cases hk : kids l (l.length : Int) with
 | nil => rfl
 | cons c t =>
  obtain ⟨i, h1, h2, -⟩ := kids_behind l op h (l.length : Int) (by omega) c (by rw [hk]; exact List.mem_cons_self ..)
  have := (List.getElem?_eq_some_iff.1 h1).1
  omega
end
def prs (p : PS) : List (Nd × List UInt8) := p.n.zip (p.s.map fun s => s.data.toList)
theorem prs_len {p : PS} (h : p.s.length = p.n.length) : (prs p).length = p.n.length := by
 unfold prs; rw [List.length_zip, List.length_map, h, Nat.min_self]
theorem prs_at {p : PS} (i : Nat) (c : Nd × List UInt8) (h : (prs p)[i]? = some c) : p.n[i]? = some c.1 ∧ ∃ s, p.s[i]? = some s ∧ c.2 = s.data.toList := by
 unfold prs at h
 rw [List.getElem?_zip_eq_some] at h
 obtain ⟨h1, h2⟩ := h
 rw [List.getElem?_map] at h2
 cases hs : p.s[i]? with
 | none => rw [hs] at h2; cases h2
 | some s => rw [hs] at h2; exact ⟨h1, s, rfl, (Option.some.inj h2).symm⟩
theorem prs_put {p q : PS} (h : p.s.length = p.n.length) (m : Nd) (s : ByteArray) (hn : q.n = p.n ++ [m]) (hs : q.s = p.s ++ [s]) : prs q = prs p ++ [(m, s.data.toList)] := by
 unfold prs
 rw [hn, hs, List.map_append, List.zip_append (by rw [List.length_map, h])]; rfl
def Kin (m : Nd) : Prop := (m.f0 = 1 ∧ m.f3.data.toList = []) ∨ m.f0 = 2 ∨ (m.f0 = 3 ∧ m.f1 = -1 ∧ ¬ m.f3.data.toList = [])
structure Fit (p : PS) (e : List Int) : Prop where
 len : p.s.length = p.n.length
 row : rows (prs p) = some (p.o ++ e)
 kin : ∀ m, m ∈ p.n → Kin m
def Dry (p : PS) : Prop := ∀ z, z ∈ p.o → textLast (prs p) z = false
def Tag (p : PS) : Prop := ∀ (j : Nat) m, p.n[j]? = some m → topP p.o < (j : Int) → m.f0 = 2 ∧ m.f2 = topP p.o
theorem topP_idx {p : PS} {e : List Int} (h : Fit p e) (ho : ¬ p.o = []) : topP p.o ∈ p.o ++ e ∧ (p.o ++ e).take ((p.o ++ e).idxOf (topP p.o) + 1) = p.o ∧ 0 ≤ topP p.o := by
 obtain ⟨p1, p2⟩ := rows_path _ _ _ rfl h.row
 have hpos : 0 < p.o.length := List.length_pos_iff.2 ho
 have hz : (p.o ++ e)[p.o.length - 1]? = some (topP p.o) := by
  rw [List.getElem?_append_left (by omega)]
  unfold topP
  rw [List.getLast?_eq_getElem?, List.getElem?_eq_getElem (by omega)]; rfl
 refine ⟨List.mem_append_left _ (topP_in _ ho), ?_, (p1 _ _ hz).1⟩
 rw [p1.idx _ _ hz, show p.o.length - 1 + 1 = p.o.length from by omega, List.take_left]
theorem fit_ne {p : PS} {e : List Int} (h : Fit p e) (ho : ¬ p.o = []) : ¬ prs p = [] := by
 obtain ⟨p1, p2⟩ := rows_path _ _ _ rfl h.row
 intro e
 have := p2.1 e
 rw [List.append_eq_nil_iff] at this
 exact ho this.1
theorem fit_in {p q : PS} {e : List Int} (h : Fit p e) (ho : ¬ p.o = []) (m : Nd) (s : ByteArray) (hn : q.n = p.n ++ [m]) (hs : q.s = p.s ++ [s]) (hq : q.o = p.o) (hk : Kin m) (h2 : m.f2 = topP p.o) (h1 : ¬ m.f0 = 1)
 (ha : m.f0 = 2 → more (prs p) (topP p.o) = false ∧ twice (prs p) (topP p.o) s.data.toList = false) (ht : ¬ m.f0 = 2 → textLast (prs p) (topP p.o) = false) : Fit q [] := by
 obtain ⟨t1, t2, t3⟩ := topP_idx h ho
 refine ⟨by rw [hn, hs, List.length_append, List.length_append, h.len]; rfl, ?_, ?_⟩
 ·rw [prs_put h.len m s hn hs, rows_snoc _ _ _ h.row, hq, List.append_nil]
  unfold right
  simp only
  rw [if_neg (fit_ne h ho), h2, if_pos t1, t2, if_neg h1]
  by_cases c2 : m.f0 = 2
  ·rw [if_pos c2, (ha c2).1, (ha c2).2, if_neg (by simp)]
  ·rw [if_neg c2, ht c2, if_neg (by simp)]
 ·intro x hx
  rw [hn] at hx
  rcases List.mem_append.1 hx with hx | hx
  ·exact h.kin x hx
  ·rw [List.mem_singleton.1 hx]; exact hk
theorem fit_el {p q : PS} {e : List Int} (h : Fit p e) (hr : p.o = [] → p.n = []) (hd : p.o.length ≤ 64) (m : Nd) (s : ByteArray) (hn : q.n = p.n ++ [m]) (hs : q.s = p.s ++ [s]) (hq : q.o = p.o ++ [(p.n.length : Int)]) (h1 : m.f0 = 1) (h3 : m.f3.data.toList = []) (h2 : m.f2 = topP p.o) : Fit q [] := by
 refine ⟨by rw [hn, hs, List.length_append, List.length_append, h.len]; rfl, ?_, ?_⟩
 ·rw [prs_put h.len m s hn hs, rows_snoc _ _ _ h.row, hq, List.append_nil]
  unfold right
  simp only
  by_cases ho : p.o = []
  ·have := hr ho
   rw [if_pos (by unfold prs; rw [this]; rfl), h2, ho, this, if_pos ⟨h1, rfl⟩]; rfl
  ·obtain ⟨t1, t2, t3⟩ := topP_idx h ho
   rw [if_neg (fit_ne h ho), h2, if_pos t1, t2, if_pos h1, if_neg (by omega), prs_len h.len]
 ·intro x hx
  rw [hn] at hx
  rcases List.mem_append.1 hx with hx | hx
  ·exact h.kin x hx
  ·rw [List.mem_singleton.1 hx]; exact Or.inl ⟨h1, h3⟩
theorem fit_flush {p : PS} {e : List Int} (h : Fit p e) (hd : Dry p) : (∃ e', Fit (flushP p) e') ∧ ∀ z, z ∈ p.o → ¬ z = topP p.o → textLast (prs (flushP p)) z = false := by
 unfold flushP
 by_cases c : p.x.data.toList = []
 ·rw [if_pos c]
  exact ⟨⟨e, h.len, h.row, h.kin⟩, fun z hz _ => hd z hz⟩
 rw [if_neg c]
 by_cases c2 : topP p.o < 0
 ·rw [if_pos c2]
  exact ⟨⟨e, h.len, h.row, h.kin⟩, fun z hz _ => hd z hz⟩
 rw [if_neg c2]
 have ho : ¬ p.o = [] := fun e => c2 (by rw [e]; decide)
 refine ⟨⟨[], fit_in h ho ⟨3, -1, topP p.o, p.x⟩ ⟨#[]⟩ rfl rfl rfl (Or.inr (Or.inr ⟨rfl, rfl, c⟩)) rfl (by show ¬ (3 : Int) = 1; omega) (fun e => absurd e (by show ¬ (3 : Int) = 2; omega)) fun _ => hd _ (topP_in _ ho)⟩, fun z hz hne => ?_⟩
 rw [prs_put h.len ⟨3, -1, topP p.o, p.x⟩ ⟨#[]⟩ rfl rfl, text_snoc, if_neg (fun e => hne e.symm)]
 exact hd z hz
theorem last_ne {p : PS} {e : List Int} (h : Fit p e) (z : Int) (hz : z ∈ p.o.dropLast) : ¬ z = topP p.o := by
 intro heq
 obtain ⟨p1, p2⟩ := rows_path _ _ _ rfl h.row
 obtain ⟨i, hi⟩ := List.mem_iff_getElem?.1 hz
 have hil := (List.getElem?_eq_some_iff.1 hi).1
 rw [List.length_dropLast] at hil
 rw [List.getElem?_dropLast, if_pos (by omega)] at hi
 have hi' : (p.o ++ e)[i]? = some z := by rw [List.getElem?_append_left (by omega)]; exact hi
 have hz' : (p.o ++ e)[p.o.length - 1]? = some (topP p.o) := by
  rw [List.getElem?_append_left (by omega)]
  unfold topP
  rw [List.getLast?_eq_getElem?, List.getElem?_eq_getElem (by omega)]; rfl
 have := p1.lt (p.o.length - 1 - i - 1) i z (topP p.o) hi' (by rw [show i + (p.o.length - 1 - i - 1) + 1 = p.o.length - 1 from by omega]; exact hz')
 omega
theorem fit_end {p : PS} {e : List Int} (h : Fit p e) (hd : Dry p) (name : ByteArray) (hw : (endP p name).wr = false) : (∃ e', Fit (endP p name) e') ∧ Dry (endP p name) := by
 obtain ⟨w1, w2, w3, w4⟩ := wr_end hw
 obtain ⟨⟨e', hf⟩, ht⟩ := fit_flush h hd
 obtain ⟨ko, kx, kd⟩ := flush_keeps p
 have ho : ¬ p.o = [] := fun e => w1 (by rw [e]; decide)
 have hsp : p.o = p.o.dropLast ++ [topP p.o] := by
  rcases List.eq_nil_or_concat p.o with h' | ⟨pre, y, h'⟩
  ·exact absurd h' ho
  ·rw [h', List.concat_eq_append, List.dropLast_concat]; unfold topP; rw [List.getLast?_concat]; rfl
 have hrow := hf.row
 rw [ko, hsp, List.append_assoc] at hrow
 rw [w4]
 refine ⟨⟨topP p.o :: e', hf.len, hrow, hf.kin⟩, fun z hz => ?_⟩
 exact ht z ((List.dropLast_sublist _).subset hz) (last_ne h z hz)
theorem dry_put {p q : PS} (h : p.s.length = p.n.length) (m : Nd) (s : ByteArray) (hn : q.n = p.n ++ [m]) (hs : q.s = p.s ++ [s]) (h3 : ¬ m.f0 = 3) (z : Int) (hz : m.f2 = z ∨ textLast (prs p) z = false) : textLast (prs q) z = false := by
 rw [prs_put h m s hn hs, text_snoc]
 by_cases c : m.f2 = z
 ·rw [if_pos c]; simpa using h3
 ·rw [if_neg c]; exact hz.resolve_left c
def Ok (p : PS) (x : Bool) : Prop := (∃ e, Fit p e) ∧ Dry p ∧ (x = true → Tag p ∧ ¬ p.o = [])
theorem ok_step {p : PS} {x : Bool} (h : Ok p x) (t : Tok) (hx : x = inTag t.f0) (hw : (X.stepT p t).wr = false) (hd : (X.stepT p t).dp = false) : Ok (X.stepT p t) (opens t.f0) := by
 obtain ⟨⟨e, hf⟩, hdry, htag⟩ := h
 unfold X.stepT at hw hd ⊢
 by_cases c7 : t.f0 = 7
 ·rw [if_pos c7, c7]; exact ⟨⟨e, hf⟩, hdry, fun h => absurd h (by decide)⟩
 rw [if_neg c7] at hw hd ⊢
 by_cases c6 : t.f0 = 6
 ·rw [if_pos c6, c6]; exact ⟨⟨e, hf.len, hf.row, hf.kin⟩, hdry, fun h => absurd h (by decide)⟩
 rw [if_neg c6] at hw hd ⊢
 by_cases c1 : t.f0 = 1
 ·rw [if_pos c1] at hw hd
  rw [if_pos c1, c1]
  obtain ⟨w1, w2⟩ := wr_begin hw
  obtain ⟨⟨e', hfl⟩, ht⟩ := fit_flush hf hdry
  obtain ⟨ko, kx, kd⟩ := flush_keeps p
  have hdp : ((flushP p).dp || decide ((64 : Int) < (flushP p).o.length)) = false := hd
  simp only [Bool.or_eq_false_iff, decide_eq_false_iff_not] at hdp
  have hroot : (flushP p).o = [] → (flushP p).n = [] := by
   intro ho
   rw [ko] at ho
   apply List.eq_nil_of_length_eq_zero
   have : ¬ (topP p.o < 0 ∧ 0 < (flushP p).n.length) := w2
   rw [ho] at this
   exact Nat.eq_zero_of_not_pos fun hh => this ⟨by decide, hh⟩
  have hnew := fit_el (q := beginP p t.f3) hfl hroot (by omega) ⟨1, 0, topP (flushP p).o, ⟨#[]⟩⟩ t.f3 rfl rfl rfl rfl rfl rfl
  refine ⟨⟨[], hnew⟩, ?_, fun _ => ⟨?_, ?_⟩⟩
  ·intro z hz
   have hz : z ∈ (flushP p).o ++ [((flushP p).n.length : Int)] := hz
   refine dry_put (p := flushP p) hfl.len ⟨1, 0, topP (flushP p).o, ⟨#[]⟩⟩ t.f3 rfl rfl (by show ¬ (1 : Int) = 3; omega) z ?_
   rcases List.mem_append.1 hz with hz | hz
   ·by_cases ct : z = topP p.o
    ·left; rw [ct, ko]
    ·right; exact ht z (by rw [← ko]; exact hz) ct
   ·right
    rw [List.mem_singleton.1 hz]
    unfold textLast
    rw [← prs_len hfl.len, kids_none _ _ hfl.row]; rfl
  ·intro j m hj hlt
   have hj : ((flushP p).n ++ [⟨1, 0, topP (flushP p).o, ⟨#[]⟩⟩])[j]? = some m := hj
   have hl := (List.getElem?_eq_some_iff.1 hj).1
   rw [List.length_append, List.length_singleton] at hl
   have hlt : topP ((flushP p).o ++ [((flushP p).n.length : Int)]) < (j : Int) := hlt
   unfold topP at hlt
   rw [List.getLast?_concat] at hlt
   have hlt : ((flushP p).n.length : Int) < (j : Int) := hlt
   omega
  ·show ¬ (flushP p).o ++ [((flushP p).n.length : Int)] = []
   simp
 rw [if_neg c1] at hw hd ⊢
 by_cases c2 : t.f0 = 2
 ·rw [if_pos c2] at hw hd
  rw [if_pos c2, c2]
  obtain ⟨hT, ho⟩ := htag (by rw [hx, c2]; rfl)
  have hw : (p.wr || ((p.s.drop (topP p.o + 1).toNat).any fun a => a.data.toList == t.f3.data.toList)) = false := hw
  simp only [Bool.or_eq_false_iff] at hw
  obtain ⟨t1, t2, t3⟩ := topP_idx hf ho
  have hkid : ∀ c, c ∈ kids (prs p) (topP p.o) → c.1.f0 = 2 ∧ ¬ c.2 = t.f3.data.toList := by
   intro c hc
   obtain ⟨i, h1, h2, h3⟩ := kids_behind _ _ hf.row _ t3 c hc
   obtain ⟨g1, s, g2, g3⟩ := prs_at i c h1
   refine ⟨(hT i c.1 g1 h2).1, fun heq => ?_⟩
   have := List.any_eq_false.1 hw.2 s (by
    have hi := (List.getElem?_eq_some_iff.1 g2).1
    have : (p.s.drop (topP p.o + 1).toNat)[i - (topP p.o + 1).toNat]? = some s := by
     rw [List.getElem?_drop, show (topP p.o + 1).toNat + (i - (topP p.o + 1).toNat) = i from by omega]; exact g2
    exact List.mem_of_getElem? this)
   rw [← g3, heq] at this
   simp at this
  refine ⟨⟨[], fit_in hf ho ⟨2, 0, topP p.o, t.f4⟩ t.f3 rfl rfl rfl (Or.inr (Or.inl rfl)) rfl (by show ¬ (2 : Int) = 1; omega) (fun _ => ⟨?_, ?_⟩) (fun hh => absurd rfl hh)⟩, ?_, fun _ => ⟨?_, ho⟩⟩
  ·unfold more
   rw [List.any_eq_false]
   intro c hc
   have := (hkid c hc).1
   simp [this]
  ·unfold twice
   rw [List.any_eq_false]
   intro c hc
   have := (hkid c hc).2
   simp [this]
  ·intro z hz
   exact dry_put hf.len ⟨2, 0, topP p.o, t.f4⟩ t.f3 rfl rfl (by show ¬ (2 : Int) = 3; omega) z (Or.inr (hdry z hz))
  ·intro j m hj hlt
   have hj : (p.n ++ [⟨2, 0, topP p.o, t.f4⟩])[j]? = some m := hj
   by_cases hjl : j < p.n.length
   ·rw [List.getElem?_append_left hjl] at hj
    exact hT j m hj hlt
   ·rw [List.getElem?_append_right (by omega)] at hj
    have hl := (List.getElem?_eq_some_iff.1 hj).1
    rw [List.length_singleton] at hl
    rw [show j - p.n.length = 0 from by omega] at hj
    rw [← Option.some.inj hj]; exact ⟨rfl, rfl⟩
 rw [if_neg c2] at hw hd ⊢
 have ho : opens t.f0 = false := by
  unfold opens
  rw [show (t.f0 == 1) = false from by simpa using c1, show (t.f0 == 2) = false from by simpa using c2]; rfl
 rw [ho]
 by_cases c4 : t.f0 = 4
 ·rw [if_pos c4] at hw hd ⊢
  obtain ⟨h1, h2⟩ := fit_end hf hdry _ hw
  exact ⟨h1, h2, fun h => absurd h (by decide)⟩
 rw [if_neg c4] at hw hd ⊢
 by_cases c5 : t.f0 = 5
 ·rw [if_pos c5] at hw hd ⊢
  obtain ⟨h1, h2⟩ := fit_end hf hdry _ hw
  exact ⟨h1, h2, fun h => absurd h (by decide)⟩
 ·rw [if_neg c5]
  exact ⟨⟨e, hf⟩, hdry, fun h => absurd h (by decide)⟩
theorem dp_flush (p : PS) : (flushP p).dp = p.dp := (flush_keeps p).2.2
theorem dp_end (p : PS) (name : ByteArray) : (endP p name).dp = p.dp := by
 unfold endP; simp only; split
 ·exact dp_flush p
 ·exact dp_flush p
theorem dp_step {p : PS} {t : Tok} (h : (X.stepT p t).dp = false) : p.dp = false := by
 unfold X.stepT at h
 repeat' split at h
 ·exact h
 ·exact h
 ·have h : ((flushP p).dp || decide ((64 : Int) < (flushP p).o.length)) = false := h
  simp only [Bool.or_eq_false_iff] at h
  rw [dp_flush] at h; exact h.1
 ·exact h
 ·rw [dp_end] at h; exact h
 ·rw [dp_end] at h; exact h
 ·exact h
theorem dp_run : ∀ (l : List Tok) {p : PS}, (l.foldl X.stepT p).dp = false → p.dp = false
 | [], p, h => h
 | t :: l, p, h => dp_step (dp_run l h)
theorem ok_run (L : List UInt8) : ∀ (l : List Tok) (a b : Int) (x y : Bool) (p : PS), Seg L a x l b y → Ok p x → (l.foldl X.stepT p).wr = false → (l.foldl X.stepT p).dp = false → Ok (l.foldl X.stepT p) y
 | [], a, b, x, y, p, hs, h, _, _ => by obtain ⟨_, rfl⟩ := hs; exact h
 | t :: l, a, b, x, y, p, hs, h, hw, hd => by
  obtain ⟨h1, h2, h3, h4, h5, h6⟩ := hs
  exact ok_run L l _ _ _ _ _ h6 (ok_step h t h5 (wr_run l hw) (dp_run l hd)) hw hd
theorem ok_zero : Ok psZero false := ⟨⟨[], rfl, rfl, fun m hm => by cases hm⟩, fun z hz => (by cases hz), fun h => absurd h (by decide)⟩
theorem tree_dp (p : PS) (h : (treeP p).2 = 0) : p.dp = false ∧ p.n.length ≤ 5000 ∧ (sortedP (namesOf p)).length ≤ 1000 := by
 unfold treeP at h
 by_cases c : p.wr = true ∨ 0 < p.o.length ∨ p.n.length = 0
 ·rw [if_pos c] at h; exact absurd h (by decide)
 ·rw [if_neg c] at h
  by_cases c2 : p.dp = true ∨ 5000 < p.n.length ∨ 1000 < (sortedP (namesOf p)).length
  ·rw [if_pos c2] at h; exact absurd h (by decide)
  ·refine ⟨?_, Nat.le_of_not_lt fun hh => c2 (Or.inr (Or.inl hh)), Nat.le_of_not_lt fun hh => c2 (Or.inr (Or.inr hh))⟩
   cases hw : p.dp with
   | true => exact absurd (Or.inl hw) c2
   | false => rfl
theorem parse_fit (s : ByteArray) (h : (parseV s).2 = 0) : ∃ p e, Fit p e ∧ p.o = [] ∧ 0 < p.n.length ∧ p.n.length ≤ 5000 ∧ (sortedP (namesOf p)).length ≤ 1000 ∧ parseV s = (((sortedP (namesOf p)).map bytesL, treeN p), 0) ∧ p = flushP ((lexV s).1.foldl X.stepT psZero) := by
 obtain ⟨hl, hp⟩ := parse_ok s h
 rw [hp] at h
 obtain ⟨t1, t2, t3, t4⟩ := tree_ok _ h
 obtain ⟨d1, d2, d3⟩ := tree_dp _ h
 rw [dp_flush] at d1
 obtain ⟨⟨e, hf⟩, hdry, -⟩ := ok_run _ _ _ _ _ _ _ (lexV_seg s hl) ok_zero (wr_flush t1) d1
 obtain ⟨⟨e', hf'⟩, -⟩ := fit_flush hf hdry
 exact ⟨_, e', hf', t2, t3, d2, d3, by rw [hp, t4], rfl⟩
end Go.Proofs.YtlhhhlimjajnlaaGreat.Ck
end
section
set_option linter.unusedVariables false
set_option linter.unusedSimpArgs false
namespace Go.Proofs.YtlhhhlimjajnlaaGreat.Ck
open Go.RowKit Go.Proofs.YtlhhhlimjajnlaaGreat Go.Proofs.YtlhhhlimjajnlaaGreat.Q Go.Proofs.YtlhhhlimjajnlaaGreat.P11 Go.Proofs.YtlhhhlimjajnlaaGreat.P12 Go.Proofs.YtlhhhlimjajnlaaGreatW.PrintWords Go.Proofs.YtlhhhlimjajnlaaGreat.X Go.Proofs.YtlhhhlimjajnlaaGreat.P13
theorem sorted_nodup (l : List (List UInt8)) : (sortedP l).Nodup := by
 unfold sortedP
 exact (List.mergeSort_perm (onceP l) _).nodup_iff.2 (nodup_onceP l)
theorem le_total_u8 (a b : List UInt8) : (decide (a ≤ b) || decide (b ≤ a)) = true := by
 rcases List.le_total a b with h | h
 ·simp [h]
 ·simp [h]
theorem sorted_le (l : List (List UInt8)) : (sortedP l).Pairwise fun a b => a ≤ b := by
 unfold sortedP
 have := List.pairwise_mergeSort (le := fun x y : List UInt8 => decide (x ≤ y)) (fun a b c h1 h2 => by
  simp only [decide_eq_true_eq] at h1 h2 ⊢
  exact List.le_trans h1 h2) (fun a b => le_total_u8 a b) (onceP l)
 exact this.imp fun h => by simpa using h
end Go.Proofs.YtlhhhlimjajnlaaGreat.Ck
end
