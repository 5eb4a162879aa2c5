/- Parts of the proof of canonSpoilt_holds, kept and merged by a program of mine (wip/tools/slim.py) out of my texts: ParK ParM P13b P13c P13d Fit FitN Inc P14k P14v -/
import Derived.Sort.KeysCollected
import Derived.Test.YtlhhhlimjajnlaaGreatSSp12
import Derived.Test.YtlhhhlimjajnlaaGreatSSp23
import Derived.Test.YtlhhhlimjajnlaaGreatSSp5
import Derived.Test.YtlhhhlimjajnlaaGreatSSp9
import Derived.Test.YtlhhhlimjajnlaaGreatSSp16
section
set_option linter.unusedVariables false
set_option linter.unusedSimpArgs false
namespace Go.Proofs.YtlhhhlimjajnlaaGreat.X
open Go Go.RowKit Go.Maps Go.Sort Go.Proofs.YtlhhhlimjajnlaaGreat Go.Proofs.YtlhhhlimjajnlaaGreat.Q Go.Proofs.YtlhhhlimjajnlaaGreatW.PrintWords
theorem mem_onceP : ∀ (l : List (List UInt8)) (x : List UInt8), x ∈ onceP l ↔ x ∈ l
 | [], x => by simp [onceP]
 | a :: t, x => by
  unfold onceP
  by_cases h : t.contains a = true
  ·rw [if_pos h, mem_onceP t x, List.mem_cons]
   constructor
   ·exact Or.inr
   ·rintro (rfl | h')
    ·simpa using h
    ·exact h'
  ·rw [if_neg h, List.mem_cons, List.mem_cons, mem_onceP t x]
theorem nodup_onceP : ∀ l : List (List UInt8), (onceP l).Nodup
 | [] => List.nodup_nil
 | a :: t => by
  unfold onceP
  by_cases h : t.contains a = true
  ·rw [if_pos h]; exact nodup_onceP t
  ·rw [if_neg h, List.nodup_cons]
   refine ⟨fun hm => h ?_, nodup_onceP t⟩
   simpa using (mem_onceP t a).1 hm
theorem keysTo_all (p : PS) : keysTo p (p.n.zip p.s).length = (namesOf p).map Lit.string := by
 unfold keysTo namesOf
 rw [List.take_length]
 induction p.n.zip p.s with
 | nil => rfl
 | cons c t ih =>
  rw [List.filterMap_cons, List.filterMap_cons]
  by_cases h : c.1.f0 = 3
  ·simp only [h, if_true]; exact ih
  ·simp only [h, if_false, List.map_cons]; rw [ih]
theorem keys_are (ks : List (List UInt8)) (u : DataW Unit) : ∃ es, setOf u (ks.map Lit.string) = .map es ∧ es.Pairwise (fun p q => p.1 ≠ q.1) := tidy_setOf u _ (by
 intro x hx
 obtain ⟨s, _, rfl⟩ := List.mem_map.1 hx
 trivial)
theorem has_keys (ks : List (List UInt8)) (u : DataW Unit) (x : List UInt8) : has (setOf u (ks.map Lit.string)) (.string x) = ks.contains x := by
 rw [has_setOf u _ _ (by
  intro x hx
  obtain ⟨s, _, rfl⟩ := List.mem_map.1 hx
  trivial), Bool.eq_iff_iff, List.any_eq_true, List.contains_iff_mem]
 constructor
 ·rintro ⟨y, hy, hs⟩
  obtain ⟨s, hs', rfl⟩ := List.mem_map.1 hy
  have : (s == x) = true := hs
  rw [← eq_of_beq this]; exact hs'
 ·intro hx
  exact ⟨_, List.mem_map.2 ⟨x, hx, rfl⟩, by show (x == x) = true; exact beq_self_eq_true x⟩
theorem sorted_names {W : World} {mb cnt : Nat} {ks : List (List UInt8)} {u : DataW Unit} (h : W.ownsMap Tryz.prog 9 RI mb cnt (setOf u (ks.map Lit.string))) {ss : List (List UInt8)} (hp : ss.Perm (strKeys (setOf u (ks.map Lit.string)))) :
 (ss.mergeSort fun x y => decide (x ≤ y)) = sortedP ks ∧ ss.length = (sortedP ks).length := by
 obtain ⟨es, he, hpw⟩ := keys_are ks u
 obtain ⟨es', he', hk⟩ := h.keysOf
 have hes : es = es' := by rw [he] at he'; injection he'
 subst hes
 have hperm : (onceP ks).Perm (strKeys (setOf u (ks.map Lit.string))) := by
  rw [he]
  refine perm_strKeys hpw (fun q hq => ?_) (nodup_onceP ks) (fun x => ?_)
  ·obtain ⟨v, hv⟩ := hk q hq
   obtain ⟨s, _, hs, _⟩ := WideMaps.string_of_keyOf (P := Tryz.prog) Tryz.underlying9 hv
   exact ⟨_, hs⟩
  ·rw [← he, has_keys, List.contains_iff_mem, mem_onceP]
 have h2 := mergeSort_of_perm (hp.trans hperm.symm)
 refine ⟨h2, ?_⟩
 unfold sortedP
 rw [List.length_mergeSort]
 exact (hp.trans hperm.symm).length_eq
def numTo (p : PS) (names : List (List UInt8)) (k : Nat) : List Nod := ((p.n.zip p.s).take k).map (fun c => numbered names c.1 c.2) ++ p.n.drop k
theorem numTo_zero (p : PS) (names : List (List UInt8)) : numTo p names 0 = p.n := by simp [numTo]
theorem numTo_len (p : PS) (names : List (List UInt8)) (k : Nat) (hs : p.s.length = p.n.length) (hk : k ≤ p.n.length) : (numTo p names k).length = p.n.length := by
 simp [numTo, List.length_zip]; omega
theorem numTo_all (p : PS) (names : List (List UInt8)) (hs : p.s.length = p.n.length) : numTo p names p.n.length = (p.n.zip p.s).map fun c => numbered names c.1 c.2 := by
 unfold numTo
 rw [List.drop_length, List.append_nil, List.take_of_length_le (by rw [List.length_zip]; omega)]
theorem numTo_at (p : PS) (names : List (List UInt8)) (k : Nat) (hs : p.s.length = p.n.length) (hk : k < p.n.length) : (numTo p names k).getD k ⟨0, 0, 0, ⟨#[]⟩⟩ = p.n.getD k ⟨0, 0, 0, ⟨#[]⟩⟩ := by
 unfold numTo
 have hl : (((p.n.zip p.s).take k).map (fun c => numbered names c.1 c.2)).length = k := by
  rw [List.length_map, List.length_take, List.length_zip]; omega
 rw [List.getD_eq_getElem?_getD, List.getD_eq_getElem?_getD, List.getElem?_append_right (by omega), hl, Nat.sub_self, List.getElem?_drop, Nat.add_zero]
theorem numTo_succ (p : PS) (names : List (List UInt8)) (k : Nat) (hs : p.s.length = p.n.length) (hk : k < p.n.length) :
 numTo p names (k + 1) = (numTo p names k).set k (numbered names (p.n.getD k ⟨0, 0, 0, ⟨#[]⟩⟩) (p.s.getD k ⟨#[]⟩)) := by
 have hz : k < (p.n.zip p.s).length := by rw [List.length_zip]; omega
 have hl : (((p.n.zip p.s).take k).map (fun c => numbered names c.1 c.2)).length = k := by
  rw [List.length_map, List.length_take, List.length_zip]; omega
 unfold numTo
 rw [List.set_append_right _ _ (by omega), hl, Nat.sub_self, List.drop_eq_getElem_cons hk, List.set_cons_zero, List.take_succ_eq_append_getElem hz, List.map_append, List.append_assoc]
 congr 1
 rw [List.map_singleton, List.singleton_append, List.getElem_zip]
 simp only [List.getD_eq_getElem?_getD, List.getElem?_eq_getElem hk, List.getElem?_eq_getElem (show k < p.s.length by omega), Option.getD_some]
theorem numTo_skip (p : PS) (names : List (List UInt8)) (k : Nat) (hs : p.s.length = p.n.length) (hk : k < p.n.length) (h3 : (p.n.getD k ⟨0, 0, 0, ⟨#[]⟩⟩).f0 = 3) : numTo p names (k + 1) = numTo p names k := by
 rw [numTo_succ p names k hs hk]
 unfold numbered
 rw [if_pos h3, ← numTo_at p names k hs hk, List.getD_eq_getElem?_getD, List.getElem?_eq_getElem (by rw [numTo_len p names k hs (by omega)]; exact hk), Option.getD_some]
 exact List.set_getElem_self _
def J3 (w0 : World) (g nb bb mb tb cnt : Nat) (D : DataW Unit) (v1 v2 v3 vN : Value) (p : PS) (names : List (List UInt8)) (k : Nat) (W : World) : Prop :=
 W.cell? ⟨bb, 0, none⟩ = some (.pointer (some ⟨g, 0, none⟩)) ∧ W.cell? ⟨nb, 0, none⟩ = some (.map (some mb)) ∧ Bd w0 W g v1 v2 v3 { p with n := numTo p names k } ∧ W.ownsMap Tryz.prog 9 RI mb cnt D ∧
  W.heap[tb]? = some (.cells #[.slice none 0 0, .slice none 0 0] 27 (0, 0)) ∧ Kd.R Kd.string 9 W w0.heap.size (fun _ => True) vN (names.map bytesL)
theorem number_c {w0 W0 : World} {g nb bb mb tb ga gn c1 c2 cnt : Nat} {D : DataW Unit} {v3 vN : Value} {p : PS} {names : List (List UInt8)} (hl : p.n.length ≤ 1000000) (hs : p.s.length = p.n.length) (hx : ∀ s, s ∈ p.s → s.size ≤ maxLen) (hne : ∀ b, b = bb ∨ b = nb ∨ b = mb ∨ b = tb → b ≠ ga)
 (hnm : ∀ k, k < p.n.length → ¬ (p.n.getD k ⟨0, 0, 0, ⟨#[]⟩⟩).f0 = 3 → (p.s.getD k ⟨#[]⟩).data.toList ∈ names) (hD : ∀ j, j < names.length → ∀ z, D.atKey (.string (names.getD j [])) z = .lit (.int .i64 j))
 (h0 : J3 w0 g nb bb mb tb cnt D (.slice (some ⟨ga, 0, none⟩) p.n.length c1) (.slice (some ⟨gn, 0, none⟩) p.s.length c2) v3 vN p names 0 W0) :
 Calls Tryz.prog 60 #[.func (.func 64) #[] #[.pointer (some ⟨nb, 0, none⟩), .pointer (some ⟨bb, 0, none⟩)], .pointer (some ⟨bb, 0, none⟩)] W0 fun e w' => e = .returned (.tuple #[]) ∧ J3 w0 g nb bb mb tb cnt D (.slice (some ⟨ga, 0, none⟩) p.n.length c1) (.slice (some ⟨gn, 0, none⟩) p.s.length c2) v3 vN p names p.n.length w' := by
 refine each3_c (g := g) (bb := bb) (ga := ga) (c1 := c1) _ _ p.n (J3 w0 g nb bb mb tb cnt D (.slice (some ⟨ga, 0, none⟩) p.n.length c1) (.slice (some ⟨gn, 0, none⟩) p.s.length c2) v3 vN p names) hl ?_ ?_ ?_ ?_ ?_ h0
 ·rintro k W ⟨j1, j2, j3, -⟩
  exact ⟨j1, j3.c0⟩
 ·rintro k W ⟨j1, j2, j3, -⟩ hk
  have hlen := numTo_len p names k hs (by omega)
  have hC := (Kd.R_reads' j3.r1).2.2
  obtain ⟨ad, he, r0, r1, r2, r3⟩ := at_T41 hC (k : Int) (by omega) (by show (k : Int) < ((numTo p names k).length : Int); omega)
  cases he
  have hrd : rd_T41 (numTo p names k) (k : Int) = p.n.getD k ⟨0, 0, 0, ⟨#[]⟩⟩ := by
   rw [← numTo_at p names k hs hk]
   unfold rd_T41
   rw [Int.toNat_natCast, List.getD_eq_getElem?_getD, List.getD_eq_getElem?_getD, List.getElem?_eq_getElem (by omega)]; rfl
  have ea : (⟨ga, 0, none⟩ : Addr).add ((k : Int).toNat * 4) = ⟨ga, k * 4, none⟩ := by simp [Addr.add]; omega
  rw [show ({ p with n := numTo p names k } : PS).n = numTo p names k from rfl, hrd, ea] at r0 r1 r2 r3
  exact ⟨_, r0, r1, r2, r3⟩
 ·rintro k W W' ⟨j1, j2, j3, j4, j5, j6⟩ hb
  have g1 := W.block_lt_of_cell? _ j1
  have g2 := W.block_lt_of_cell? _ j2
  have gr : W.grownBy W' none := ⟨hb.os, hb.tape, hb.output, hb.size, fun k hk _ => hb.block k hk⟩
  exact ⟨(hb.cell g1).trans j1, (hb.cell g2).trans j2, j3.below hb, j4.kept gr (by simp), blk_below j5 hb, Kd.R_below j6 hb⟩
 ·rintro k W ⟨j1, j2, j3, j4, j5, j6⟩ hk h3
  exact ⟨j1, j2, by rw [numTo_skip p names k hs hk h3]; exact j3, j4, j5, j6⟩
 ·rintro k W ⟨j1, j2, j3, j4, j5, j6⟩ hk h3
  have hlen := numTo_len p names k hs (by omega)
  have hC2 := (Kd.R_reads' j3.r2).2.2
  obtain ⟨ad2, he2, hcell⟩ := Kd.at_string hC2 (k : Int) (by omega) (by show (k : Int) < (p.s.length : Int); omega)
  cases he2
  have hS : rdOf ByteArray.empty p.s (k : Int) = p.s.getD k ⟨#[]⟩ := by
   unfold rdOf
   rw [Int.toNat_natCast, List.getD_eq_getElem?_getD, List.getD_eq_getElem?_getD, List.getElem?_eq_getElem (by omega)]; rfl
  have ea2 : (⟨gn, 0, none⟩ : Addr).add ((k : Int).toNat) = ⟨gn, k, none⟩ := by simp [Addr.add]; omega
  have hcell : W.cell? ⟨gn, k, none⟩ = some (.string (p.s.getD k ⟨#[]⟩)) := by rw [← hS, ← ea2]; exact hcell
  have hmem : p.s.getD k ⟨#[]⟩ ∈ p.s := by
   rw [List.getD_eq_getElem?_getD, List.getElem?_eq_getElem (by omega)]
   exact List.getElem_mem _
  have hC := (Kd.R_reads' j3.r1).2.2
  obtain ⟨ad, he, -, r1, -, -⟩ := at_T41 hC (k : Int) (by omega) (by show (k : Int) < ((numTo p names k).length : Int); omega)
  cases he
  have ea : (⟨ga, 0, none⟩ : Addr).add ((k : Int).toNat * 4) = ⟨ga, k * 4, none⟩ := by simp [Addr.add]; omega
  rw [ea] at r1
  obtain ⟨cells, hcells⟩ := Kd.R_typed j3.r1 ga (by simp [Value.ownBlock])
  have hin := hnm k hk h3
  obtain ⟨z, hz⟩ : ∃ z, names.idxOf (p.s.getD k ⟨#[]⟩).data.toList = z := ⟨_, rfl⟩
  have hzl : z < names.length := by rw [← hz]; exact List.idxOf_lt_length_of_mem hin
  have hzn : names.getD z [] = (p.s.getD k ⟨#[]⟩).data.toList := by
   rw [List.getD_eq_getElem?_getD, List.getElem?_eq_getElem hzl, Option.getD_some]
   subst hz
   exact List.getElem_idxOf _
  have hat := hD z hzl
  rw [hzn] at hat
  refine (do3_c (g := g) (gn := gn) (n2 := p.s.length) (c2 := c2) (ga := ga) (n1 := p.n.length) (c1 := c1) (z := (z : Int)) j2 j1 j3.c1 (by omega) hcell (hx _ hmem) j4 j3.c0 hk r1 (blk_frozen hcells _) hat).mono ?_
  rintro e w' ⟨rfl, n, rfl⟩
  obtain ⟨hr', hg'⟩ := node_set (Kd.R_drewN j3.r1 n) k (by exact hk) (z : Int)
  have hga : ∀ kk, (Value.slice (some ⟨ga, 0, none⟩) p.n.length c1).ownBlock = some kk → kk = ga := by
   intro kk hkk
   simp [Value.ownBlock] at hkk
   exact hkk.symm
  have hgne : some g ≠ some ga := fun e => j3.n1 (by rw [e]; simp [Value.ownBlock])
  have hap : ∀ {α : Type} {d' : Kd α} {e' b' : Nat} {ok' : Nat → Prop} {u : Value} {ys : List α}, d'.R e' W b' ok' u ys → e' ≠ 41 → ∀ kk, some ga = some kk → some kk ≠ u.ownBlock := by
   intro α d' e' b' ok' u ys hR hne' kk hkk
   injection hkk with hkk
   subst hkk
   exact rows_apart j3.r1 hR hne' ga (by simp [Value.ownBlock])
  have hbase : w0.heap.size ≤ ga := Kd.R_base j3.r1 ga (by simp [Value.ownBlock])
  have hnew : (numTo p names k).set k { (numTo p names k).getD k ⟨0, 0, 0, ⟨#[]⟩⟩ with f1 := (z : Int) } = numTo p names (k + 1) := by
   rw [numTo_succ p names k hs hk, numTo_at p names k hs hk]
   unfold numbered
   rw [if_neg h3, hz]
  refine ⟨rfl, ?_, ?_, ⟨?_, j3.ge, ?_, ?_, ?_, ?_⟩, ?_, ?_, ?_⟩
  ·exact hg'.cell (a := ⟨bb, 0, none⟩) (by exact j1) (by intro e; injection e with e; exact hne bb (Or.inl rfl) e)
  ·exact hg'.cell (a := ⟨nb, 0, none⟩) (by exact j2) (by intro e; injection e with e; exact hne nb (Or.inr (Or.inl rfl)) e)
  ·exact blk_grown (blk_drewN j3.blk n) hg' hgne
  ·rw [← hnew]; exact hr'
  ·exact Kd.R_grown2 (Kd.R_drewN j3.r2 n) rfl hg' (hap j3.r2 (by decide))
  ·exact Kd.R_grown2 (Kd.R_drewN j3.r3 n) rfl hg' (hap j3.r3 (by decide))
  ·exact (pw_below_drewN j3.bel n).setCell (p := ⟨ga, k * 4 + 1, none⟩) hbase _
  ·exact World.ownsMap.kept (show (W.drewN n).ownsMap Tryz.prog 9 RI mb cnt D from j4) hg' (by intro e; injection e with e; exact hne mb (Or.inr (Or.inr (Or.inl rfl))) e)
  ·exact blk_grown (blk_drewN j5 n) hg' (by intro e; injection e with e; exact hne tb (Or.inr (Or.inr (Or.inr rfl))) e)
  ·exact Kd.R_grown2 (Kd.R_drewN j6 n) rfl hg' (hap j6 (by decide))
theorem name_in (p : PS) (hs : p.s.length = p.n.length) (k : Nat) (hk : k < p.n.length) (h3 : ¬ (p.n.getD k ⟨0, 0, 0, ⟨#[]⟩⟩).f0 = 3) : (p.s.getD k ⟨#[]⟩).data.toList ∈ sortedP (namesOf p) := by
 unfold sortedP
 refine (List.mergeSort_perm _ _).mem_iff.2 ((mem_onceP _ _).2 ?_)
 unfold namesOf
 have hz : k < (p.n.zip p.s).length := by rw [List.length_zip]; omega
 refine List.mem_filterMap.2 ⟨(p.n.zip p.s)[k], List.getElem_mem hz, ?_⟩
 rw [List.getElem_zip]
 rw [List.getD_eq_getElem?_getD, List.getElem?_eq_getElem hk, Option.getD_some] at h3
 rw [List.getD_eq_getElem?_getD, List.getElem?_eq_getElem (show k < p.s.length by omega), Option.getD_some, if_neg h3]
end Go.Proofs.YtlhhhlimjajnlaaGreat.X
end
section
set_option linter.unusedVariables false
set_option linter.unusedSimpArgs false
namespace Go.Proofs.YtlhhhlimjajnlaaGreat.P13
open Go.RowKit Go.Proofs.YtlhhhlimjajnlaaGreat Go.Proofs.YtlhhhlimjajnlaaGreat.Q Go.Proofs.YtlhhhlimjajnlaaGreat.P11 Go.Proofs.YtlhhhlimjajnlaaGreat.P12 Go.Proofs.YtlhhhlimjajnlaaGreatW.PrintWords Go.Proofs.YtlhhhlimjajnlaaGreat.X
def treeN (p : PS) : List Nod := (p.n.zip p.s).map fun c => numbered (sortedP (namesOf p)) c.1 c.2
abbrev nz : Nod := ⟨0, 0, 0, ⟨#[]⟩⟩
theorem treeN_len (p : PS) (h : p.s.length = p.n.length) : (treeN p).length = p.n.length := by
 unfold treeN; rw [List.length_map, List.length_zip, h, Nat.min_self]
theorem treeN_at (p : PS) (h : p.s.length = p.n.length) (i : Nat) (hi : i < p.n.length) : (treeN p).getD i nz = numbered (sortedP (namesOf p)) (p.n.getD i nz) (p.s.getD i ⟨#[]⟩) := by
 unfold treeN
 simp only [List.getD_eq_getElem?_getD, List.getElem?_map]
 rw [List.getElem?_eq_getElem (show i < (p.n.zip p.s).length by rw [List.length_zip]; omega), List.getElem?_eq_getElem hi, List.getElem?_eq_getElem (show i < p.s.length by omega)]
 simp
theorem mem_names (p : PS) (h : p.s.length = p.n.length) (i : Nat) (hi : i < p.n.length) (h3 : ¬ (p.n.getD i nz).f0 = 3) : (p.s.getD i ⟨#[]⟩).data.toList ∈ namesOf p := by
 unfold namesOf
 rw [List.mem_filterMap]
 refine ⟨(p.n.getD i nz, p.s.getD i ⟨#[]⟩), ?_, by simp only; rw [if_neg h3]⟩
 rw [List.getD_eq_getElem?_getD, List.getD_eq_getElem?_getD, List.getElem?_eq_getElem hi, List.getElem?_eq_getElem (show i < p.s.length by omega)]
 show (p.n[i], p.s[i]) ∈ _
 have : (p.n.zip p.s)[i]'(by rw [List.length_zip]; omega) = (p.n[i], p.s[i]) := List.getElem_zip
 rw [← this]; exact List.getElem_mem _
theorem mem_sorted (l : List (List UInt8)) (x : List UInt8) : x ∈ sortedP l ↔ x ∈ l := by
 unfold sortedP; rw [List.mem_mergeSort, mem_onceP]
theorem bytesL_data (s : ByteArray) : bytesL s.data.toList = s := by unfold bytesL; apply ByteArray.ext; simp
theorem tree_ok (p : PS) (h : (treeP p).2 = 0) : p.wr = false ∧ p.o = [] ∧ 0 < p.n.length ∧ treeP p = (((sortedP (namesOf p)).map bytesL, treeN p), 0) := by
 unfold treeP at h ⊢
 by_cases c : p.wr = true ∨ 0 < p.o.length ∨ p.n.length = 0
 ·rw [if_pos c] at h; exact absurd h (by decide)
 ·rw [if_neg c] at h ⊢
  by_cases c2 : p.dp = true ∨ 5000 < p.n.length ∨ 1000 < (sortedP (namesOf p)).length
  ·rw [if_pos c2] at h; exact absurd h (by decide)
  ·rw [if_neg c2]
   refine ⟨?_, ?_, ?_, rfl⟩
   ·cases hw : p.wr with
    | true => exact absurd (Or.inl hw) c
    | false => rfl
   ·cases ho : p.o with
    | nil => rfl
    | cons a b => exact absurd (Or.inr (Or.inl (by rw [ho]; simp))) c
   ·exact Nat.pos_of_ne_zero fun e => c (Or.inr (Or.inr e))
theorem wr_flush {p : PS} (h : (flushP p).wr = false) : p.wr = false := by
 unfold flushP at h
 split at h
 ·exact h
 split at h
 ·simp only [Bool.or_eq_false_iff] at h; exact h.1
 ·exact h
theorem wr_end {p : PS} {name : ByteArray} (h : (endP p name).wr = false) : ¬ topP p.o < 0 ∧ (flushP p).wr = false ∧ ((flushP p).s.getD (topP p.o).toNat ⟨#[]⟩).data.toList = name.data.toList ∧ endP p name = { flushP p with o := p.o.dropLast } := by
 have ho : (flushP p).o = p.o := by unfold flushP; split; rfl; split <;> rfl
 unfold endP at h ⊢
 simp only at h ⊢
 rw [ho] at h ⊢
 by_cases c : topP p.o < 0 ∨ ¬ ((flushP p).s.getD (topP p.o).toNat ⟨#[]⟩).data.toList = name.data.toList
 ·rw [if_pos c] at h; exact absurd h (by simp)
 ·rw [if_neg c] at h ⊢
  exact ⟨fun e => c (Or.inl e), h, Classical.byContradiction fun e => c (Or.inr e), rfl⟩
theorem wr_begin {p : PS} {name : ByteArray} (h : (beginP p name).wr = false) : (flushP p).wr = false ∧ ¬ (topP p.o < 0 ∧ 0 < (flushP p).n.length) := by
 have ho : (flushP p).o = p.o := by unfold flushP; split; rfl; split <;> rfl
 have h : ((flushP p).wr || (decide (topP (flushP p).o < 0) && decide (0 < (flushP p).n.length))) = false := h
 rw [ho] at h
 simp only [Bool.or_eq_false_iff, Bool.and_eq_false_iff, decide_eq_false_iff_not] at h
 exact ⟨h.1, fun c => by rcases h.2 with h | h; exact h c.1; exact h c.2⟩
theorem wr_step {p : PS} {t : Tok} (h : (X.stepT p t).wr = false) : p.wr = false := by
 unfold X.stepT at h
 repeat' split at h
 ·exact h
 ·exact h
 ·exact wr_flush (wr_begin h).1
 ·unfold attrS putP at h; simp only [Bool.or_eq_false_iff] at h; exact h.1
 ·exact wr_flush (wr_end h).2.1
 ·exact wr_flush (wr_end h).2.1
 ·exact h
theorem wr_run : ∀ (l : List Tok) {p : PS}, (l.foldl X.stepT p).wr = false → p.wr = false
 | [], p, h => h
 | t :: l, p, h => wr_step (wr_run l h)
abbrev zzB : ByteArray := ⟨#[122, 122]⟩
abbrev noB : ByteArray := ⟨#[]⟩
abbrev rootN : Nod := ⟨1, 0, -1, noB⟩
def q0 : PS :=⟨[rootN], [zzB], [0], noB, false, false⟩
theorem flush_keeps (p : PS) : (flushP p).o = p.o ∧ (flushP p).x = noB ∧ (flushP p).dp = p.dp := by
 unfold flushP; split
 ·exact ⟨rfl, rfl, rfl⟩
 split
 ·exact ⟨rfl, rfl, rfl⟩
 ·exact ⟨rfl, rfl, rfl⟩
theorem parse_ok (s : ByteArray) (h : (parseV s).2 = 0) : (lexV s).2 = 0 ∧ parseV s = treeP (flushP ((lexV s).1.foldl X.stepT psZero)) := by
 unfold parseV at h ⊢
 by_cases c : (lexV s).2 = 0
 ·rw [if_pos c]; exact ⟨c, rfl⟩
 ·rw [if_neg c] at h; exact absurd h c
end Go.Proofs.YtlhhhlimjajnlaaGreat.P13
end
section
set_option linter.unusedVariables false
set_option linter.unusedSimpArgs false
namespace Go.Proofs.YtlhhhlimjajnlaaGreat.Ck
open Go.RowKit Go.Proofs.YtlhhhlimjajnlaaGreat Go.Proofs.YtlhhhlimjajnlaaGreat.Q Go.Proofs.YtlhhhlimjajnlaaGreat.P11 Go.Proofs.YtlhhhlimjajnlaaGreat.P12 Go.Proofs.YtlhhhlimjajnlaaGreatW.PrintWords Go.Proofs.YtlhhhlimjajnlaaGreat.X Go.Proofs.YtlhhhlimjajnlaaGreat.P13
def prs (p : PS) : List (Nd × List UInt8) := p.n.zip (p.s.map fun s => s.data.toList)
theorem prs_len {p : PS} (h : p.s.length = p.n.length) : (prs p).length = p.n.length := by
 unfold prs; rw [List.length_zip, List.length_map, h, Nat.min_self]
theorem prs_at {p : PS} (i : Nat) (c : Nd × List UInt8) (h : (prs p)[i]? = some c) : p.n[i]? = some c.1 ∧ ∃ s, p.s[i]? = some s ∧ c.2 = s.data.toList := by
 unfold prs at h
 rw [List.getElem?_zip_eq_some] at h
 obtain ⟨h1, h2⟩ := h
 rw [List.getElem?_map] at h2
 cases hs : p.s[i]? with
 | none => rw [hs] at h2; cases h2
 | some s => rw [hs] at h2; exact ⟨h1, s, rfl, (Option.some.inj h2).symm⟩
theorem prs_put {p q : PS} (h : p.s.length = p.n.length) (m : Nd) (s : ByteArray) (hn : q.n = p.n ++ [m]) (hs : q.s = p.s ++ [s]) : prs q = prs p ++ [(m, s.data.toList)] := by
 unfold prs
 rw [hn, hs, List.map_append, List.zip_append (by rw [List.length_map, h])]; rfl
def Kin (m : Nd) : Prop := (m.f0 = 1 ∧ m.f3.data.toList = []) ∨ m.f0 = 2 ∨ (m.f0 = 3 ∧ m.f1 = -1 ∧ ¬ m.f3.data.toList = [])
structure Fit (p : PS) (e : List Int) : Prop where
 len : p.s.length = p.n.length
 row : rows (prs p) = some (p.o ++ e)
 kin : ∀ m, m ∈ p.n → Kin m
def Dry (p : PS) : Prop := ∀ z, z ∈ p.o → textLast (prs p) z = false
def Tag (p : PS) : Prop := ∀ (j : Nat) m, p.n[j]? = some m → topP p.o < (j : Int) → m.f0 = 2 ∧ m.f2 = topP p.o
theorem topP_idx {p : PS} {e : List Int} (h : Fit p e) (ho : ¬ p.o = []) : topP p.o ∈ p.o ++ e ∧ (p.o ++ e).take ((p.o ++ e).idxOf (topP p.o) + 1) = p.o ∧ 0 ≤ topP p.o := by
 obtain ⟨p1, p2⟩ := rows_path _ _ _ rfl h.row
 have hpos : 0 < p.o.length := List.length_pos_iff.2 ho
 have hz : (p.o ++ e)[p.o.length - 1]? = some (topP p.o) := by
  rw [List.getElem?_append_left (by omega)]
  unfold topP
  rw [List.getLast?_eq_getElem?, List.getElem?_eq_getElem (by omega)]; rfl
 refine ⟨List.mem_append_left _ (topP_in _ ho), ?_, (p1 _ _ hz).1⟩
 rw [p1.idx _ _ hz, show p.o.length - 1 + 1 = p.o.length from by omega, List.take_left]
theorem fit_ne {p : PS} {e : List Int} (h : Fit p e) (ho : ¬ p.o = []) : ¬ prs p = [] := by
 obtain ⟨p1, p2⟩ := rows_path _ _ _ rfl h.row
 intro e
 have := p2.1 e
 rw [List.append_eq_nil_iff] at this
 exact ho this.1
theorem fit_in {p q : PS} {e : List Int} (h : Fit p e) (ho : ¬ p.o = []) (m : Nd) (s : ByteArray) (hn : q.n = p.n ++ [m]) (hs : q.s = p.s ++ [s]) (hq : q.o = p.o) (hk : Kin m) (h2 : m.f2 = topP p.o) (h1 : ¬ m.f0 = 1)
 (ha : m.f0 = 2 → more (prs p) (topP p.o) = false ∧ twice (prs p) (topP p.o) s.data.toList = false) (ht : ¬ m.f0 = 2 → textLast (prs p) (topP p.o) = false) : Fit q [] := by
 obtain ⟨t1, t2, t3⟩ := topP_idx h ho
 refine ⟨by rw [hn, hs, List.length_append, List.length_append, h.len]; rfl, ?_, ?_⟩
 ·rw [prs_put h.len m s hn hs, rows_snoc _ _ _ h.row, hq, List.append_nil]
  unfold right
  simp only
  rw [if_neg (fit_ne h ho), h2, if_pos t1, t2, if_neg h1]
  by_cases c2 : m.f0 = 2
  ·rw [if_pos c2, (ha c2).1, (ha c2).2, if_neg (by simp)]
  ·rw [if_neg c2, ht c2, if_neg (by simp)]
 ·intro x hx
  rw [hn] at hx
  rcases List.mem_append.1 hx with hx | hx
  ·exact h.kin x hx
  ·rw [List.mem_singleton.1 hx]; exact hk
theorem fit_el {p q : PS} {e : List Int} (h : Fit p e) (hr : p.o = [] → p.n = []) (hd : p.o.length ≤ 64) (m : Nd) (s : ByteArray) (hn : q.n = p.n ++ [m]) (hs : q.s = p.s ++ [s]) (hq : q.o = p.o ++ [(p.n.length : Int)]) (h1 : m.f0 = 1) (h3 : m.f3.data.toList = []) (h2 : m.f2 = topP p.o) : Fit q [] := by
 refine ⟨by rw [hn, hs, List.length_append, List.length_append, h.len]; rfl, ?_, ?_⟩
 ·rw [prs_put h.len m s hn hs, rows_snoc _ _ _ h.row, hq, List.append_nil]
  unfold right
  simp only
  by_cases ho : p.o = []
  ·have := hr ho
   rw [if_pos (by unfold prs; rw [this]; rfl), h2, ho, this, if_pos ⟨h1, rfl⟩]; rfl
  ·obtain ⟨t1, t2, t3⟩ := topP_idx h ho
   rw [if_neg (fit_ne h ho), h2, if_pos t1, t2, if_pos h1, if_neg (by omega), prs_len h.len]
 ·intro x hx
  rw [hn] at hx
  rcases List.mem_append.1 hx with hx | hx
  ·exact h.kin x hx
  ·rw [List.mem_singleton.1 hx]; exact Or.inl ⟨h1, h3⟩
theorem fit_flush {p : PS} {e : List Int} (h : Fit p e) (hd : Dry p) : (∃ e', Fit (flushP p) e') ∧ ∀ z, z ∈ p.o → ¬ z = topP p.o → textLast (prs (flushP p)) z = false := by
 unfold flushP
 by_cases c : p.x.data.toList = []
 ·rw [if_pos c]
  exact ⟨⟨e, h.len, h.row, h.kin⟩, fun z hz _ => hd z hz⟩
 rw [if_neg c]
 by_cases c2 : topP p.o < 0
 ·rw [if_pos c2]
  exact ⟨⟨e, h.len, h.row, h.kin⟩, fun z hz _ => hd z hz⟩
 rw [if_neg c2]
 have ho : ¬ p.o = [] := fun e => c2 (by rw [e]; decide)
 refine ⟨⟨[], fit_in h ho ⟨3, -1, topP p.o, p.x⟩ ⟨#[]⟩ rfl rfl rfl (Or.inr (Or.inr ⟨rfl, rfl, c⟩)) rfl (by show ¬ (3 : Int) = 1; omega) (fun e => absurd e (by show ¬ (3 : Int) = 2; omega)) fun _ => hd _ (topP_in _ ho)⟩, fun z hz hne => ?_⟩
 rw [prs_put h.len ⟨3, -1, topP p.o, p.x⟩ ⟨#[]⟩ rfl rfl, text_snoc, if_neg (fun e => hne e.symm)]
 exact hd z hz
theorem last_ne {p : PS} {e : List Int} (h : Fit p e) (z : Int) (hz : z ∈ p.o.dropLast) : ¬ z = topP p.o := by
 intro heq
 obtain ⟨p1, p2⟩ := rows_path _ _ _ rfl h.row
 obtain ⟨i, hi⟩ := List.mem_iff_getElem?.1 hz
 have hil := (List.getElem?_eq_some_iff.1 hi).1
 rw [List.length_dropLast] at hil
 rw [List.getElem?_dropLast, if_pos (by omega)] at hi
 have hi' : (p.o ++ e)[i]? = some z := by rw [List.getElem?_append_left (by omega)]; exact hi
 have hz' : (p.o ++ e)[p.o.length - 1]? = some (topP p.o) := by
  rw [List.getElem?_append_left (by omega)]
  unfold topP
  rw [List.getLast?_eq_getElem?, List.getElem?_eq_getElem (by omega)]; rfl
 have := p1.lt (p.o.length - 1 - i - 1) i z (topP p.o) hi' (by rw [show i + (p.o.length - 1 - i - 1) + 1 = p.o.length - 1 from by omega]; exact hz')
 omega
theorem fit_end {p : PS} {e : List Int} (h : Fit p e) (hd : Dry p) (name : ByteArray) (hw : (endP p name).wr = false) : (∃ e', Fit (endP p name) e') ∧ Dry (endP p name) := by
 obtain ⟨w1, w2, w3, w4⟩ := wr_end hw
 obtain ⟨⟨e', hf⟩, ht⟩ := fit_flush h hd
 obtain ⟨ko, kx, kd⟩ := flush_keeps p
 have ho : ¬ p.o = [] := fun e => w1 (by rw [e]; decide)
 have hsp : p.o = p.o.dropLast ++ [topP p.o] := by
  rcases List.eq_nil_or_concat p.o with h' | ⟨pre, y, h'⟩
  ·exact absurd h' ho
  ·rw [h', List.concat_eq_append, List.dropLast_concat]; unfold topP; rw [List.getLast?_concat]; rfl
 have hrow := hf.row
 rw [ko, hsp, List.append_assoc] at hrow
 rw [w4]
 refine ⟨⟨topP p.o :: e', hf.len, hrow, hf.kin⟩, fun z hz => ?_⟩
 exact ht z ((List.dropLast_sublist _).subset hz) (last_ne h z hz)
theorem dry_put {p q : PS} (h : p.s.length = p.n.length) (m : Nd) (s : ByteArray) (hn : q.n = p.n ++ [m]) (hs : q.s = p.s ++ [s]) (h3 : ¬ m.f0 = 3) (z : Int) (hz : m.f2 = z ∨ textLast (prs p) z = false) : textLast (prs q) z = false := by
 rw [prs_put h m s hn hs, text_snoc]
 by_cases c : m.f2 = z
 ·rw [if_pos c]; simpa using h3
 ·rw [if_neg c]; exact hz.resolve_left c
def Ok (p : PS) (x : Bool) : Prop := (∃ e, Fit p e) ∧ Dry p ∧ (x = true → Tag p ∧ ¬ p.o = [])
theorem ok_step {p : PS} {x : Bool} (h : Ok p x) (t : Tok) (hx : x = inTag t.f0) (hw : (X.stepT p t).wr = false) (hd : (X.stepT p t).dp = false) : Ok (X.stepT p t) (opens t.f0) := by
 obtain ⟨⟨e, hf⟩, hdry, htag⟩ := h
 unfold X.stepT at hw hd ⊢
 by_cases c7 : t.f0 = 7
 ·rw [if_pos c7, c7]; exact ⟨⟨e, hf⟩, hdry, fun h => absurd h (by decide)⟩
 rw [if_neg c7] at hw hd ⊢
 by_cases c6 : t.f0 = 6
 ·rw [if_pos c6, c6]; exact ⟨⟨e, hf.len, hf.row, hf.kin⟩, hdry, fun h => absurd h (by decide)⟩
 rw [if_neg c6] at hw hd ⊢
 by_cases c1 : t.f0 = 1
 ·rw [if_pos c1] at hw hd
  rw [if_pos c1, c1]
  obtain ⟨w1, w2⟩ := wr_begin hw
  obtain ⟨⟨e', hfl⟩, ht⟩ := fit_flush hf hdry
  obtain ⟨ko, kx, kd⟩ := flush_keeps p
  have hdp : ((flushP p).dp || decide ((64 : Int) < (flushP p).o.length)) = false := hd
  simp only [Bool.or_eq_false_iff, decide_eq_false_iff_not] at hdp
  have hroot : (flushP p).o = [] → (flushP p).n = [] := by
   intro ho
   rw [ko] at ho
   apply List.eq_nil_of_length_eq_zero
   have : ¬ (topP p.o < 0 ∧ 0 < (flushP p).n.length) := w2
   rw [ho] at this
   exact Nat.eq_zero_of_not_pos fun hh => this ⟨by decide, hh⟩
  have hnew := fit_el (q := beginP p t.f3) hfl hroot (by omega) ⟨1, 0, topP (flushP p).o, ⟨#[]⟩⟩ t.f3 rfl rfl rfl rfl rfl rfl
  refine ⟨⟨[], hnew⟩, ?_, fun _ => ⟨?_, ?_⟩⟩
  ·intro z hz
   have hz : z ∈ (flushP p).o ++ [((flushP p).n.length : Int)] := hz
   refine dry_put (p := flushP p) hfl.len ⟨1, 0, topP (flushP p).o, ⟨#[]⟩⟩ t.f3 rfl rfl (by show ¬ (1 : Int) = 3; omega) z ?_
   rcases List.mem_append.1 hz with hz | hz
   ·by_cases ct : z = topP p.o
    ·left; rw [ct, ko]
    ·right; exact ht z (by rw [← ko]; exact hz) ct
   ·right
    rw [List.mem_singleton.1 hz]
    unfold textLast
    rw [← prs_len hfl.len, kids_none _ _ hfl.row]; rfl
  ·intro j m hj hlt
   have hj : ((flushP p).n ++ [⟨1, 0, topP (flushP p).o, ⟨#[]⟩⟩])[j]? = some m := hj
   have hl := (List.getElem?_eq_some_iff.1 hj).1
   rw [List.length_append, List.length_singleton] at hl
   have hlt : topP ((flushP p).o ++ [((flushP p).n.length : Int)]) < (j : Int) := hlt
   unfold topP at hlt
   rw [List.getLast?_concat] at hlt
   have hlt : ((flushP p).n.length : Int) < (j : Int) := hlt
   omega
  ·show ¬ (flushP p).o ++ [((flushP p).n.length : Int)] = []
   simp
 rw [if_neg c1] at hw hd ⊢
 by_cases c2 : t.f0 = 2
 ·rw [if_pos c2] at hw hd
  rw [if_pos c2, c2]
  obtain ⟨hT, ho⟩ := htag (by rw [hx, c2]; rfl)
  have hw : (p.wr || ((p.s.drop (topP p.o + 1).toNat).any fun a => a.data.toList == t.f3.data.toList)) = false := hw
  simp only [Bool.or_eq_false_iff] at hw
  obtain ⟨t1, t2, t3⟩ := topP_idx hf ho
  have hkid : ∀ c, c ∈ kids (prs p) (topP p.o) → c.1.f0 = 2 ∧ ¬ c.2 = t.f3.data.toList := by
   intro c hc
   obtain ⟨i, h1, h2, h3⟩ := kids_behind _ _ hf.row _ t3 c hc
   obtain ⟨g1, s, g2, g3⟩ := prs_at i c h1
   refine ⟨(hT i c.1 g1 h2).1, fun heq => ?_⟩
   have := List.any_eq_false.1 hw.2 s (by
    have hi := (List.getElem?_eq_some_iff.1 g2).1
    have : (p.s.drop (topP p.o + 1).toNat)[i - (topP p.o + 1).toNat]? = some s := by
     rw [List.getElem?_drop, show (topP p.o + 1).toNat + (i - (topP p.o + 1).toNat) = i from by omega]; exact g2
    exact List.mem_of_getElem? this)
   rw [← g3, heq] at this
   simp at this
  refine ⟨⟨[], fit_in hf ho ⟨2, 0, topP p.o, t.f4⟩ t.f3 rfl rfl rfl (Or.inr (Or.inl rfl)) rfl (by show ¬ (2 : Int) = 1; omega) (fun _ => ⟨?_, ?_⟩) (fun hh => absurd rfl hh)⟩, ?_, fun _ => ⟨?_, ho⟩⟩
  ·unfold more
   rw [List.any_eq_false]
   intro c hc
   have := (hkid c hc).1
   simp [this]
  ·unfold twice
   rw [List.any_eq_false]
   intro c hc
   have := (hkid c hc).2
   simp [this]
  ·intro z hz
   exact dry_put hf.len ⟨2, 0, topP p.o, t.f4⟩ t.f3 rfl rfl (by show ¬ (2 : Int) = 3; omega) z (Or.inr (hdry z hz))
  ·intro j m hj hlt
   have hj : (p.n ++ [⟨2, 0, topP p.o, t.f4⟩])[j]? = some m := hj
   by_cases hjl : j < p.n.length
   ·rw [List.getElem?_append_left hjl] at hj
    exact hT j m hj hlt
   ·rw [List.getElem?_append_right (by omega)] at hj
    have hl := (List.getElem?_eq_some_iff.1 hj).1
    rw [List.length_singleton] at hl
    rw [show j - p.n.length = 0 from by omega] at hj
    rw [← Option.some.inj hj]; exact ⟨rfl, rfl⟩
 rw [if_neg c2] at hw hd ⊢
 have ho : opens t.f0 = false := by
  unfold opens
  rw [show (t.f0 == 1) = false from by simpa using c1, show (t.f0 == 2) = false from by simpa using c2]; rfl
 rw [ho]
 by_cases c4 : t.f0 = 4
 ·rw [if_pos c4] at hw hd ⊢
  obtain ⟨h1, h2⟩ := fit_end hf hdry _ hw
  exact ⟨h1, h2, fun h => absurd h (by decide)⟩
 rw [if_neg c4] at hw hd ⊢
 by_cases c5 : t.f0 = 5
 ·rw [if_pos c5] at hw hd ⊢
  obtain ⟨h1, h2⟩ := fit_end hf hdry _ hw
  exact ⟨h1, h2, fun h => absurd h (by decide)⟩
 ·rw [if_neg c5]
  exact ⟨⟨e, hf⟩, hdry, fun h => absurd h (by decide)⟩
theorem dp_flush (p : PS) : (flushP p).dp = p.dp := (flush_keeps p).2.2
theorem dp_end (p : PS) (name : ByteArray) : (endP p name).dp = p.dp := by
 unfold endP; simp only; split
 ·exact dp_flush p
 ·exact dp_flush p
theorem dp_step {p : PS} {t : Tok} (h : (X.stepT p t).dp = false) : p.dp = false := by
 unfold X.stepT at h
 repeat' split at h
 ·exact h
 ·exact h
 ·have h : ((flushP p).dp || decide ((64 : Int) < (flushP p).o.length)) = false := h
  simp only [Bool.or_eq_false_iff] at h
  rw [dp_flush] at h; exact h.1
 ·exact h
 ·rw [dp_end] at h; exact h
 ·rw [dp_end] at h; exact h
 ·exact h
theorem dp_run : ∀ (l : List Tok) {p : PS}, (l.foldl X.stepT p).dp = false → p.dp = false
 | [], p, h => h
 | t :: l, p, h => dp_step (dp_run l h)
theorem ok_run (L : List UInt8) : ∀ (l : List Tok) (a b : Int) (x y : Bool) (p : PS), Seg L a x l b y → Ok p x → (l.foldl X.stepT p).wr = false → (l.foldl X.stepT p).dp = false → Ok (l.foldl X.stepT p) y
 | [], a, b, x, y, p, hs, h, _, _ => by obtain ⟨_, rfl⟩ := hs; exact h
 | t :: l, a, b, x, y, p, hs, h, hw, hd => by
  obtain ⟨h1, h2, h3, h4, h5, h6⟩ := hs
  exact ok_run L l _ _ _ _ _ h6 (ok_step h t h5 (wr_run l hw) (dp_run l hd)) hw hd
theorem ok_zero : Ok psZero false := ⟨⟨[], rfl, rfl, fun m hm => by cases hm⟩, fun z hz => (by cases hz), fun h => absurd h (by decide)⟩
theorem tree_dp (p : PS) (h : (treeP p).2 = 0) : p.dp = false ∧ p.n.length ≤ 5000 ∧ (sortedP (namesOf p)).length ≤ 1000 := by
 unfold treeP at h
 by_cases c : p.wr = true ∨ 0 < p.o.length ∨ p.n.length = 0
 ·rw [if_pos c] at h; exact absurd h (by decide)
 ·rw [if_neg c] at h
  by_cases c2 : p.dp = true ∨ 5000 < p.n.length ∨ 1000 < (sortedP (namesOf p)).length
  ·rw [if_pos c2] at h; exact absurd h (by decide)
  ·refine ⟨?_, Nat.le_of_not_lt fun hh => c2 (Or.inr (Or.inl hh)), Nat.le_of_not_lt fun hh => c2 (Or.inr (Or.inr hh))⟩
   cases hw : p.dp with
   | true => exact absurd (Or.inl hw) c2
   | false => rfl
theorem parse_fit (s : ByteArray) (h : (parseV s).2 = 0) : ∃ p e, Fit p e ∧ p.o = [] ∧ 0 < p.n.length ∧ p.n.length ≤ 5000 ∧ (sortedP (namesOf p)).length ≤ 1000 ∧ parseV s = (((sortedP (namesOf p)).map bytesL, treeN p), 0) ∧ p = flushP ((lexV s).1.foldl X.stepT psZero) := by
 obtain ⟨hl, hp⟩ := parse_ok s h
 rw [hp] at h
 obtain ⟨t1, t2, t3, t4⟩ := tree_ok _ h
 obtain ⟨d1, d2, d3⟩ := tree_dp _ h
 rw [dp_flush] at d1
 obtain ⟨⟨e, hf⟩, hdry, -⟩ := ok_run _ _ _ _ _ _ _ (lexV_seg s hl) ok_zero (wr_flush t1) d1
 obtain ⟨⟨e', hf'⟩, -⟩ := fit_flush hf hdry
 exact ⟨_, e', hf', t2, t3, d2, d3, by rw [hp, t4], rfl⟩
def NameL (l : List UInt8) : Prop := 0 < l.length ∧ nameLen l = l.length
theorem takeWhile_all {α : Type} (p : α → Bool) : ∀ l : List α, (l.takeWhile p).takeWhile p = l.takeWhile p
 | [] => rfl
 | a :: t => by
  by_cases h : p a = true
  ·rw [List.takeWhile_cons_of_pos h, List.takeWhile_cons_of_pos h, takeWhile_all p t]
  ·rw [List.takeWhile_cons_of_neg h]; rfl
theorem takeWhile_take {α : Type} (p : α → Bool) (l : List α) : l.take (l.takeWhile p).length = l.takeWhile p := by
 induction l with
 | nil => rfl
 | cons a t ih =>
  by_cases h : p a = true
  ·rw [List.takeWhile_cons_of_pos h, List.length_cons, List.take_succ_cons, ih]
  ·rw [List.takeWhile_cons_of_neg h]; rfl
theorem nameLen_take (l : List UInt8) (h : 0 < nameLen l) : NameL (l.take (nameLen l)) := by
 cases l with
 | nil => exact absurd h (by decide)
 | cons c t =>
  rw [nameLen_cons] at h ⊢
  by_cases hc : nameB c = true
  ·rw [if_pos hc] at h ⊢
   rw [show 1 + (t.takeWhile fun d => nameB d || moreB d).length = (t.takeWhile fun d => nameB d || moreB d).length + 1 from by omega, List.take_succ_cons, takeWhile_take]
   refine ⟨by simp, ?_⟩
   rw [nameLen_cons, if_pos hc, takeWhile_all, List.length_cons]; omega
  ·rw [if_neg hc] at h; exact absurd h (by decide)
theorem name_part (d : ByteArray) (i : Int) (h0 : 0 ≤ i) (h : ¬ nameEndP d.data.toList i = i) : NameL (partB d i (nameEndP d.data.toList i)).data.toList := by
 unfold nameEndP at h ⊢
 by_cases c : 0 ≤ i ∧ i < (d.data.toList.length : Int)
 ·rw [if_pos c] at h ⊢
  have := nameLen_take (d.data.toList.drop i.toNat) (by omega)
  unfold partB
  rw [Lib.extract_data, show (i + (nameLen (d.data.toList.drop i.toNat) : Int)).toNat - i.toNat = nameLen (d.data.toList.drop i.toNat) from by omega]
  exact this
 ·rw [if_neg c] at h; exact absurd rfl h
def Called (l : List Tok) : Prop := ∀ t, t ∈ l → t.f0 = 1 ∨ t.f0 = 2 → NameL t.f3.data.toList
theorem called_app {l r : List Tok} (h1 : Called l) (h2 : Called r) : Called (l ++ r) := fun t ht => by
 rcases List.mem_append.1 ht with h | h
 ·exact h1 t h
 ·exact h2 t h
theorem called_one {t : Tok} (h : t.f0 = 1 ∨ t.f0 = 2 → NameL t.f3.data.toList) : Called [t] := fun u hu => by rw [List.mem_singleton.1 hu]; exact h
theorem attr_called (d : ByteArray) (a : Int) (h0 : 0 ≤ a) (new : List Tok) (a' : Int) (h : attrP d a = some (new, a')) : Called new := by
 unfold attrP at h
 simp only at h
 have hs := skip_ge d.data.toList a
 split at h
 ·cases h
 split at h
 ·cases h
 rename_i hne
 repeat' split at h
 all_goals first
  | (injection h with h; injection h with h2 h3; rw [← h2]; exact called_one fun _ => name_part d _ (by omega) hne; done)
  | (exact absurd h (by simp))
theorem attr_ahead (d : ByteArray) (a : Int) (h0 : 0 ≤ a) (new : List Tok) (a' : Int) (h : attrP d a = some (new, a')) : 0 ≤ a' := by
 have hs := skip_ge d.data.toList a
 have hs2 := name_ge d.data.toList (skipP d.data.toList a)
 have hs3 := skip_ge d.data.toList (nameEndP d.data.toList (skipP d.data.toList a))
 have hs4 := skip_ge d.data.toList (skipP d.data.toList (nameEndP d.data.toList (skipP d.data.toList a)) + 1)
 unfold attrP at h
 simp only at h
 repeat' split at h
 all_goals first
  | (injection h with h; injection h with h2 h3; omega)
  | (exact absurd h (by simp))
theorem attrs_called (d : ByteArray) : ∀ (n : Nat) (a : Int) (acc r : List Tok) (a' : Int), 0 ≤ a → Called acc → attrsF d n a acc = some (r, a') → Called r := by
 intro n
 induction n with
 | zero => intro a acc r a' _ _ h; cases h
 | succ n ih =>
  intro a acc r a' h0 hacc h
  unfold attrsF at h
  split at h
  ·injection h with h; injection h with h2 h3
   rw [← h2]; exact called_app hacc (called_one fun e => by rcases e with e | e; exact absurd e (by show ¬ (3 : Int) = 1; omega); exact absurd e (by show ¬ (3 : Int) = 2; omega))
  split at h
  ·injection h with h; injection h with h2 h3
   rw [← h2]; exact called_app hacc (called_one fun e => by rcases e with e | e; exact absurd e (by show ¬ (4 : Int) = 1; omega); exact absurd e (by show ¬ (4 : Int) = 2; omega))
  cases hA : attrP d a with
  | none => rw [hA] at h; cases h
  | some v =>
   obtain ⟨new, p⟩ := v
   rw [hA] at h
   exact ih p (acc ++ new) r a' (attr_ahead d a h0 new p hA) (called_app hacc (attr_called d a h0 new p hA)) h
theorem step_called (d : ByteArray) (a : Int) (h0 : 0 ≤ a) (new : List Tok) (a' : Int) (h : stepP d a = some (new, a')) : Called new := by
 unfold stepP at h
 split at h
 ·unfold commentP at h
  simp only at h
  split at h
  ·cases h
  split at h
  ·injection h with h; injection h with h2 h3
   rw [← h2]; exact called_one fun e => by rcases e with e | e; exact absurd e (by show ¬ (7 : Int) = 1; omega); exact absurd e (by show ¬ (7 : Int) = 2; omega)
  ·cases h
 split at h
 ·unfold plainP at h
  simp only at h
  split at h
  ·injection h with h; injection h with h2 h3
   rw [← h2]; exact called_one fun e => by rcases e with e | e; exact absurd e (by show ¬ (6 : Int) = 1; omega); exact absurd e (by show ¬ (6 : Int) = 2; omega)
  ·cases h
 split at h
 ·unfold closingP at h
  simp only at h
  split at h
  ·cases h
  split at h
  ·injection h with h; injection h with h2 h3
   rw [← h2]; exact called_one fun e => by rcases e with e | e; exact absurd e (by show ¬ (5 : Int) = 1; omega); exact absurd e (by show ¬ (5 : Int) = 2; omega)
  ·cases h
 split at h
 ·unfold tagP at h
  simp only at h
  split at h
  ·cases h
  ·rename_i hne
   have := name_ge d.data.toList (a + 1)
   exact attrs_called d _ _ _ _ _ (by omega) (called_one fun _ => name_part d _ (by omega) hne) h
 ·unfold textP at h
  simp only at h
  cases hd : dec (Lib.cut (d.data.toList.drop a.toNat) [60]).1 with
  | none => rw [hd] at h; cases h
  | some v =>
   rw [hd] at h
   injection h with h; injection h with h2 h3
   rw [← h2]; exact called_one fun e => by rcases e with e | e; exact absurd e (by show ¬ (6 : Int) = 1; omega); exact absurd e (by show ¬ (6 : Int) = 2; omega)
theorem lexF_called (s : ByteArray) (n : Nat) : ∀ (a : Int) (acc l : List Tok), 0 ≤ a → Called acc → lexF s n a acc = some l → Called l := by
 induction n with
 | zero => intro a acc l _ _ h; cases h
 | succ n ih =>
  intro a acc l h0 hv h
  unfold lexF at h
  split at h
  ·rename_i hlt
   cases hS : stepP s a with
   | none => rw [hS] at h; cases h
   | some v =>
    obtain ⟨new, a'⟩ := v
    rw [hS] at h
    have := (step_room s a h0 hlt new a' hS).1
    exact ih a' (acc ++ new) l (by omega) (called_app hv (step_called s a h0 new a' hS)) h
  ·obtain rfl := Option.some.inj h
   exact hv
theorem lexV_called (s : ByteArray) : Called (lexV s).1 := by
 unfold lexV
 split
 ·intro t ht; cases ht
 split
 ·intro t ht; cases ht
 ·cases h : lexO s with
  | none => intro t ht; cases ht
  | some l => exact lexF_called s _ 0 [] l (Int.le_refl _) (fun t ht => by cases ht) h
def Nmd (p : PS) : Prop := ∀ c, c ∈ p.n.zip p.s → ¬ c.1.f0 = 3 → NameL c.2.data.toList
theorem nmd_put {p q : PS} (h : Nmd p) (hl : p.s.length = p.n.length) (m : Nd) (s : ByteArray) (hn : q.n = p.n ++ [m]) (hs : q.s = p.s ++ [s]) (hm : ¬ m.f0 = 3 → NameL s.data.toList) : Nmd q := by
 intro c hc
 rw [hn, hs, List.zip_append hl.symm] at hc
 rcases List.mem_append.1 hc with hc | hc
 ·exact h c hc
 ·have : c = (m, s) := by simpa using hc
  rw [this]; exact hm
theorem nmd_flush {p : PS} (h : Nmd p) (hl : p.s.length = p.n.length) : Nmd (flushP p) := by
 unfold flushP
 split
 ·exact h
 split
 ·exact h
 ·exact nmd_put h hl ⟨3, -1, topP p.o, p.x⟩ ⟨#[]⟩ rfl rfl fun e => absurd rfl e
theorem len_flush {p : PS} (hl : p.s.length = p.n.length) : (flushP p).s.length = (flushP p).n.length := by
 unfold flushP
 split
 ·exact hl
 split
 ·exact hl
 ·simp [putP, hl]
theorem nmd_end {p : PS} (h : Nmd p) (hl : p.s.length = p.n.length) (name : ByteArray) : Nmd (endP p name) ∧ (endP p name).s.length = (endP p name).n.length := by
 unfold endP
 simp only
 split
 ·exact ⟨nmd_flush h hl, len_flush hl⟩
 ·exact ⟨nmd_flush h hl, len_flush hl⟩
theorem nmd_step {p : PS} (h : Nmd p) (hl : p.s.length = p.n.length) (t : Tok) (ht : t.f0 = 1 ∨ t.f0 = 2 → NameL t.f3.data.toList) : Nmd (X.stepT p t) ∧ (X.stepT p t).s.length = (X.stepT p t).n.length := by
 unfold X.stepT
 split
 ·exact ⟨h, hl⟩
 split
 ·exact ⟨h, hl⟩
 split
 ·rename_i c1
  refine ⟨nmd_put (nmd_flush h hl) (len_flush hl) ⟨1, 0, topP (flushP p).o, ⟨#[]⟩⟩ t.f3 rfl rfl fun _ => ht (Or.inl c1), ?_⟩
  show ((flushP p).s ++ [_]).length = ((flushP p).n ++ [_]).length
  rw [List.length_append, List.length_append, len_flush hl]; rfl
 split
 ·rename_i c2
  refine ⟨nmd_put h hl ⟨2, 0, topP p.o, t.f4⟩ t.f3 rfl rfl fun _ => ht (Or.inr c2), ?_⟩
  show (p.s ++ [_]).length = (p.n ++ [_]).length
  rw [List.length_append, List.length_append, hl]; rfl
 split
 ·exact nmd_end h hl _
 split
 ·exact nmd_end h hl _
 ·exact ⟨h, hl⟩
theorem nmd_run : ∀ (l : List Tok) (p : PS), Nmd p → p.s.length = p.n.length → Called l → Nmd (l.foldl X.stepT p) ∧ (l.foldl X.stepT p).s.length = (l.foldl X.stepT p).n.length
 | [], p, h, hl, _ => ⟨h, hl⟩
 | t :: l, p, h, hl, hc => by
  obtain ⟨h1, h2⟩ := nmd_step h hl t (hc t (List.mem_cons_self ..))
  exact nmd_run l _ h1 h2 fun u hu => hc u (List.mem_cons_of_mem _ hu)
theorem parse_names (s : ByteArray) : Nmd (flushP ((lexV s).1.foldl X.stepT psZero)) := by
 obtain ⟨h1, h2⟩ := nmd_run (lexV s).1 psZero (fun c hc => by cases hc) rfl (lexV_called s)
 exact nmd_flush h1 h2
theorem sorted_nodup (l : List (List UInt8)) : (sortedP l).Nodup := by
 unfold sortedP
 exact (List.mergeSort_perm (onceP l) _).nodup_iff.2 (nodup_onceP l)
theorem le_total_u8 (a b : List UInt8) : (decide (a ≤ b) || decide (b ≤ a)) = true := by
 rcases List.le_total a b with h | h
 ·simp [h]
 ·simp [h]
theorem sorted_le (l : List (List UInt8)) : (sortedP l).Pairwise fun a b => a ≤ b := by
 unfold sortedP
 have := List.pairwise_mergeSort (le := fun x y : List UInt8 => decide (x ≤ y)) (fun a b c h1 h2 => by
  simp only [decide_eq_true_eq] at h1 h2 ⊢
  exact List.le_trans h1 h2) (fun a b => le_total_u8 a b) (onceP l)
 exact this.imp fun h => by simpa using h
theorem sorted_lt (l : List (List UInt8)) (i : Nat) (a b : List UInt8) (ha : (sortedP l)[i]? = some a) (hb : (sortedP l)[i + 1]? = some b) : a < b := by
 obtain ⟨hi, rfl⟩ := List.getElem?_eq_some_iff.1 ha
 obtain ⟨hj, rfl⟩ := List.getElem?_eq_some_iff.1 hb
 have h1 := List.pairwise_iff_getElem.1 (sorted_le l) i (i + 1) hi hj (by omega)
 have h2 : ¬ (sortedP l)[i] = (sortedP l)[i + 1] := fun e => by
  have := (List.getElem_inj (h₀ := hi) (h₁ := hj) (sorted_nodup l)).1 e
  omega
 exact Classical.byContradiction fun h => h2 (List.le_antisymm h1 (List.not_lt.1 h))
end Go.Proofs.YtlhhhlimjajnlaaGreat.Ck
end
section
set_option linter.unusedVariables false
set_option linter.unusedSimpArgs false
namespace Go.Proofs.YtlhhhlimjajnlaaGreat.R13
open Go.RowKit Go.Proofs.YtlhhhlimjajnlaaGreat Go.Proofs.YtlhhhlimjajnlaaGreat.Q Go.Proofs.YtlhhhlimjajnlaaGreat.P11 Go.Proofs.YtlhhhlimjajnlaaGreat.P12 Go.Proofs.YtlhhhlimjajnlaaGreatW.PrintWords Go.Proofs.YtlhhhlimjajnlaaGreat.X Go.Proofs.YtlhhhlimjajnlaaGreat.P13 Go.Proofs.YtlhhhlimjajnlaaGreat.Ck
def Inc (A : List ByteArray) : Prop := A.Pairwise fun a b => a.data.toList < b.data.toList
theorem u8_lt_irrefl (a : List UInt8) : ¬ a < a := List.lt_irrefl a
theorem inc_eq : ∀ {A B : List ByteArray}, Inc A → Inc B → (∀ x, x ∈ A ↔ x ∈ B) → A = B
 | [], [], _, _, _ => rfl
 | [], b :: B, _, _, h => absurd ((h b).2 (List.mem_cons_self ..)) (by simp)
 | a :: A, [], _, _, h => absurd ((h a).1 (List.mem_cons_self ..)) (by simp)
 | a :: A, b :: B, hA, hB, h => by
  obtain ⟨a1, a2⟩ := List.pairwise_cons.1 hA
  obtain ⟨b1, b2⟩ := List.pairwise_cons.1 hB
  have hab : a = b := by
   have m1 := (h a).1 (List.mem_cons_self ..)
   have m2 := (h b).2 (List.mem_cons_self ..)
   rcases List.mem_cons.1 m1 with e | m1
   ·exact e
   ·rcases List.mem_cons.1 m2 with e | m2
    ·exact e.symm
    ·exact absurd (List.lt_trans (b1 a m1) (a1 b m2)) (u8_lt_irrefl _)
  subst hab
  rw [inc_eq a2 b2 fun x => ?_]
  constructor
  ·intro hx
   rcases List.mem_cons.1 ((h x).1 (List.mem_cons_of_mem _ hx)) with e | m
   ·rw [e] at hx; exact absurd (a1 _ hx) (u8_lt_irrefl _)
   ·exact m
  ·intro hx
   rcases List.mem_cons.1 ((h x).2 (List.mem_cons_of_mem _ hx)) with e | m
   ·rw [e] at hx; exact absurd (b1 _ hx) (u8_lt_irrefl _)
   ·exact m
theorem inc_sorted (l : List (List UInt8)) : Inc ((sortedP l).map bytesL) := by
 unfold Inc
 rw [List.pairwise_map]
 have e3 : ∀ l : List UInt8, (bytesL l).data.toList = l := fun l => by unfold bytesL; simp
 have h1 := sorted_le l
 have h2 := sorted_nodup l
 refine (h1.and h2).imp fun {a b} h => ?_
 rw [e3, e3]
 exact Classical.byContradiction fun c => h.2 (List.le_antisymm h.1 (List.not_lt.1 c))
theorem data_inj {a b : ByteArray} (h : a.data.toList = b.data.toList) : a = b := by
 apply ByteArray.ext; apply Array.ext'; exact h
end Go.Proofs.YtlhhhlimjajnlaaGreat.R13
end
section
set_option linter.unusedVariables false
set_option linter.unusedSimpArgs false
namespace Go.Proofs.YtlhhhlimjajnlaaGreat.P14
open Go.RowKit Go.Proofs.YtlhhhlimjajnlaaGreat Go.Proofs.YtlhhhlimjajnlaaGreat.Q Go.Proofs.YtlhhhlimjajnlaaGreatW.PrintWords Go.Proofs.YtlhhhlimjajnlaaGreat.X Go.Proofs.YtlhhhlimjajnlaaGreat.Ck Go.Proofs.YtlhhhlimjajnlaaGreat.P11 Go.Proofs.YtlhhhlimjajnlaaGreat.P12 Go.Proofs.YtlhhhlimjajnlaaGreat.R13
abbrev Key := Int × List UInt8 × List UInt8
def stepK (p : PS) (k : Key) : PS := X.stepT p ⟨k.1, 0, 0, bytesL k.2.1, bytesL k.2.2⟩
def Lk (b : List UInt8) (ks : List Key) : Prop := ∃ ts, lexO (bytesL b) = some ts ∧ ts.map keyT = ks
def NoText (ks : List Key) : Prop := ∀ k, ks.getLast? = some k → ¬ k.1 = 6
def cv (x : Nod) : Nod := if x.f0 = 3 then x else { x with f1 := 0 }
def nmO (N : List ByteArray) (x : Nod) : ByteArray := if x.f0 = 3 then ⟨#[]⟩ else N.getD x.f1.toNat ⟨#[]⟩
def PSof (N : List ByteArray) (P : List Nod) (op : List Int) (x : ByteArray) : PS := ⟨P.map cv, P.map (nmO N), op, x, false, false⟩
structure Rd (N : List ByteArray) (P : List Nod) (out : List UInt8) (op : List Int) : Prop where
 ex : ∃ ks, Lk out ks ∧ flushP (ks.foldl stepK psZero) = PSof N P op ⟨#[]⟩ ∧ ((NoText ks ∧ ks.foldl stepK psZero = PSof N P op ⟨#[]⟩) ∨ ∃ P' x, P = P' ++ [x] ∧ x.f0 = 3 ∧ x.f2 = topP op) ∧ ks.length + op.length ≤ 3 * P.length
 v : validL out = true
section
variable {N : List ByteArray} {P R : List Nod} {op : List Int}
end
end Go.Proofs.YtlhhhlimjajnlaaGreat.P14
end
section
set_option linter.unusedVariables false
set_option linter.unusedSimpArgs false
namespace Go.Proofs.YtlhhhlimjajnlaaGreat.P14
open Go.RowKit Go.Proofs.YtlhhhlimjajnlaaGreat Go.Proofs.YtlhhhlimjajnlaaGreat.Q Go.Proofs.YtlhhhlimjajnlaaGreatW.PrintWords Go.Proofs.YtlhhhlimjajnlaaGreat.X Go.Proofs.YtlhhhlimjajnlaaGreat.Ck Go.Proofs.YtlhhhlimjajnlaaGreat.P11 Go.Proofs.YtlhhhlimjajnlaaGreat.P12 Go.Proofs.YtlhhhlimjajnlaaGreat.R13
theorem valid_cut (l : List UInt8) (h : validL l = true) : ∀ (u : List UInt8) (c : UInt8) (v : List UInt8), l = u ++ c :: v → c.toNat < 128 → validL u = true ∧ validL (c :: v) = true := by
 refine valid_ind (P := fun l => ∀ (u : List UInt8) (c : UInt8) (v : List UInt8), l = u ++ c :: v → c.toNat < 128 → validL u = true ∧ validL (c :: v) = true) ?_ ?_ l.length l (Nat.le_refl _) h
 ·intro u c v e; exact absurd (congrArg List.length e) (by simp)
 ·intro k t hp ha ht ih u c v e hc
  rcases List.append_eq_append_iff.1 e with ⟨w, e1, e2⟩ | ⟨w, e1, e2⟩
  ·obtain ⟨i1, i2⟩ := ih w c v e2 hc
   exact ⟨by rw [e1, valid_enc k hp, ha, i1]; rfl, i2⟩
  ·cases w with
   | nil =>
    rw [List.append_nil] at e1
    rw [List.nil_append] at e2
    refine ⟨?_, by rw [e2]; exact ht⟩
    rw [← e1, show encL k = encL k ++ [] from by simp, valid_enc k hp, ha]; rfl
   | cons x w =>
    injection e2 with e3 e4
    subst e3
    cases u with
    | nil =>
     refine ⟨rfl, ?_⟩
     rw [e4, show c :: w.append t = encL k ++ t from by rw [e1]; rfl, valid_enc k hp, ha, ht]; rfl
    | cons b u =>
     exfalso
     by_cases hk : 128 ≤ k
     ·have := enc_high k hp hk c (by rw [e1]; simp)
      omega
     ·have h1 : (encL k).length = 1 := by
       unfold encL
       rw [if_pos hp, if_pos (by omega)]; rfl
      rw [e1] at h1
      simp at h1
theorem valid_tail {c : UInt8} {v : List UInt8} (h : validL (c :: v) = true) (hc : c.toNat < 128) : validL v = true := by
 obtain ⟨h3, h4⟩ := enc_low c hc
 have := valid_enc (c.toNat : Int) h3 v
 rw [h4] at this
 have h' : validL ([c] ++ v) = true := h
 rw [this, Bool.and_eq_true] at h'
 exact h'.2
theorem valid_head (l : List UInt8) (h : validL l = true) : l = [] ∨ ∃ k u, pointB k = true ∧ allowedB k = true ∧ validL u = true ∧ l = encL k ++ u :=
 valid_ind (P := fun l => l = [] ∨ ∃ k u, pointB k = true ∧ allowedB k = true ∧ validL u = true ∧ l = encL k ++ u) (.inl rfl) (fun k u a b c _ => .inr ⟨k, u, a, b, c, rfl⟩) l.length l (Nat.le_refl _) h
theorem body_valid (b : List UInt8) : validL (bodyL b) = true := by
 have hn : ∀ base l, validL (numdL base l) = true := by
  intro base l
  unfold numdL
  split
  ·rfl
  ·split
   ·split
    ·rename_i n _ ha
     have hp : pointB n = true := by
      unfold allowedB at ha
      unfold pointB at ha ⊢
      simp only [Bool.or_eq_true, beq_iff_eq, Bool.and_eq_true, decide_eq_true_eq, Bool.not_eq_true', beq_eq_false_iff_ne, ne_eq] at ha ⊢
      omega
     rw [show encL n = encL n ++ [] from by simp, valid_enc n hp, ha]; rfl
    ·rfl
   ·rfl
 unfold bodyL
 split
 ·exact hn _ _
 ·split
  ·exact hn _ _
  ·unfold namedL
   repeat' split
   all_goals decide
theorem upTo_app : ∀ (l : List UInt8) (c : UInt8) (b : List UInt8), upTo c l = some b → ∃ r, l = b ++ c :: r
 | [], c, b, h => by cases h
 | a :: t, c, b, h => by
  unfold upTo at h
  split at h
  ·rename_i e
   obtain rfl := Option.some.inj h
   exact ⟨t, by rw [e]; rfl⟩
  ·cases hu : upTo c t with
   | none => rw [hu] at h; cases h
   | some b' =>
    rw [hu] at h
    obtain rfl := Option.some.inj h
    obtain ⟨r, hr⟩ := upTo_app t c b' hu
    exact ⟨r, by rw [hr]; rfl⟩
theorem enc_no38 {k : Int} (hp : pointB k = true) (h : ¬ k = 38) : ∀ c, c ∈ encL k → ¬ c = 38 := by
 intro c hc e
 subst e
 by_cases hk : 128 ≤ k
 ·have := enc_high k hp hk _ hc
  exact absurd this (by decide)
 ·unfold encL at hc
  rw [if_pos hp, if_pos (by omega), List.mem_singleton] at hc
  have h0 := (point_range hp)
  have := byteI_nat k (by omega) (by omega)
  rw [← hc] at this
  have : (38 : Int) = k := this
  exact h this.symm
theorem dec_valid : ∀ (n : Nat) (l v : List UInt8), l.length ≤ n → validL l = true → dec l = some v → validL v = true
 | 0, l, v, hn, hl, h => by
  have : l = [] := List.eq_nil_of_length_eq_zero (by omega)
  subst this
  obtain rfl := Option.some.inj h
  rfl
 | n + 1, l, v, hn, hl, h => by
  rcases valid_head l hl with rfl | ⟨k, u, hp, ha, hu, rfl⟩
  ·obtain rfl := Option.some.inj h; rfl
  by_cases hk : k = 38
  ·have e38 : encL k = [38] := by rw [hk]; decide
   rw [e38] at h hl hn
   have h : dec (38 :: u) = some v := h
   rw [dec_amp] at h
   split at h
   ·cases h
   rename_i he
   rw [entL_at, if_pos rfl] at h he
   cases hup : upTo 59 u with
   | none => rw [hup] at he; exact absurd rfl he
   | some b =>
    rw [hup] at h he
    simp only at h he
    by_cases hb : bodyL b = []
    ·rw [if_pos hb] at he; exact absurd rfl he
    ·rw [if_neg hb] at h
     simp only at h
     obtain ⟨r, hr⟩ := upTo_app u 59 b hup
     have hd : (38 :: u).drop ((b.length : Int) + 2).toNat = r := by
      rw [hr, show ((b.length : Int) + 2).toNat = b.length + 2 from by omega]
      rw [show (38 : UInt8) :: (b ++ 59 :: r) = (38 :: b ++ [59]) ++ r from by simp]
      rw [List.drop_left' (by simp)]
     rw [hd] at h
     cases hdr : dec r with
     | none => rw [hdr] at h; cases h
     | some w =>
      rw [hdr] at h
      obtain rfl := Option.some.inj h
      have hvr : validL r = true := by
       have := (valid_cut ([38] ++ u) hl (38 :: b) 59 r (by rw [hr]; simp) (by decide)).2
       exact valid_tail this (by decide)
      rw [valid_append _ _ (body_valid b)]
      refine dec_valid n r w ?_ hvr hdr
      rw [hr] at hn
      simp only [List.length_append, List.length_cons, List.length_nil] at hn
      omega
  ·rw [dec_plain _ _ (enc_no38 hp hk)] at h
   cases hdu : dec u with
   | none => rw [hdu] at h; cases h
   | some w =>
    rw [hdu] at h
    obtain rfl := Option.some.inj h
    rw [valid_enc k hp, ha, Bool.true_and]
    refine dec_valid n u w ?_ hu hdu
    have := enc_len k hp
    rw [List.length_append] at hn
    have hz : 1 ≤ (encL k).length := by
     unfold encL
     rw [if_pos hp]
     repeat' split
     all_goals simp
    omega
def ValT (l : List Tok) : Prop := ∀ t, t ∈ l → t.f0 = 2 ∨ t.f0 = 6 → validL t.f4.data.toList = true
theorem valT_app {l r : List Tok} (h1 : ValT l) (h2 : ValT r) : ValT (l ++ r) := fun t ht => by
 rcases List.mem_append.1 ht with h | h
 ·exact h1 t h
 ·exact h2 t h
theorem valT_no {t : Tok} (h : ¬ (t.f0 = 2 ∨ t.f0 = 6)) : ValT [t] := fun u hu e => by rw [List.mem_singleton.1 hu] at e; exact absurd e h
theorem valT_one {t : Tok} (h : validL t.f4.data.toList = true) : ValT [t] := fun u hu _ => by rw [List.mem_singleton.1 hu]; exact h
theorem vd_at {l : List UInt8} {a q : Int} (h : validL (l.drop a.toNat) = true) (h0 : 0 ≤ a) (haq : a ≤ q) {c : UInt8} {r : List UInt8} (hq : l.drop q.toNat = c :: r) (hc : c.toNat < 128) : validL (l.drop q.toNat) = true ∧ validL (l.drop (q + 1).toNat) = true := by
 have hsp : l.drop a.toNat = (l.drop a.toNat).take (q.toNat - a.toNat) ++ c :: r := by
  have : (l.drop a.toNat).drop (q.toNat - a.toNat) = c :: r := by rw [List.drop_drop, ← hq]; congr 1; omega
  rw [← this, List.take_append_drop]
 have h1 := (valid_cut _ h _ c r hsp hc).2
 refine ⟨by rw [hq]; exact h1, ?_⟩
 have : l.drop (q + 1).toNat = r := by
  have : l.drop (q + 1).toNat = (l.drop q.toNat).drop 1 := by rw [List.drop_drop]; congr 1; omega
  rw [this, hq]; rfl
 rw [this]
 exact valid_tail h1 hc
theorem stands_app' {d : ByteArray} {i : Int} {s : List UInt8} (h : standsB d i ⟨s.toArray⟩ = true) : ∃ r, d.data.toList.drop i.toNat = s ++ r := by
 unfold standsB Lib.hasPrefix at h
 obtain ⟨t, ht⟩ := List.isPrefixOf_iff_prefix.1 h
 exact ⟨t, ht.symm⟩
theorem cut_yes {l s : List UInt8} (h : (Lib.cut l s).2.2 = true) : ∃ r, l = (Lib.cut l s).1 ++ (s ++ r) := by
 unfold Lib.cut at h ⊢
 split at h
 ·rename_i hi
  rw [if_pos hi]
  rcases Lib.index_spec l s with ⟨e, -⟩ | ⟨i, e, hil, ho, -⟩
  ·omega
  ·unfold Lib.occAt at ho
   obtain ⟨t, ht⟩ := List.isPrefixOf_iff_prefix.1 ho
   refine ⟨t, ?_⟩
   show l = l.take (Lib.index l s).toNat ++ (s ++ t)
   rw [e, Int.toNat_natCast, ht, List.take_append_drop]
 ·cases h
theorem cut_no {l s : List UInt8} (h : (Lib.cut l s).2.2 = false) : (Lib.cut l s).1 = l := by
 unfold Lib.cut at h ⊢
 split at h
 ·cases h
 ·rename_i hi
  rw [if_neg hi]
section
variable {d : ByteArray} {a0 : Int}
theorem attr_val (h : validL (d.data.toList.drop a0.toNat) = true) (h0 : 0 ≤ a0) (a : Int) (ha : a0 ≤ a) (new : List Tok) (a' : Int) (e : attrP d a = some (new, a')) : ValT new ∧ a ≤ a' := by
 have hs := skip_ge d.data.toList a
 have hs2 := name_ge d.data.toList (skipP d.data.toList a)
 have hs3 := skip_ge d.data.toList (nameEndP d.data.toList (skipP d.data.toList a))
 have hs4 := skip_ge d.data.toList (skipP d.data.toList (nameEndP d.data.toList (skipP d.data.toList a)) + 1)
 unfold attrP at e
 obtain ⟨O, hO⟩ : ∃ O, skipP d.data.toList (skipP d.data.toList (nameEndP d.data.toList (skipP d.data.toList a)) + 1) = O := ⟨_, rfl⟩
 simp only [hO] at e
 rw [hO] at hs4
 split at e
 ·cases e
 split at e
 ·cases e
 split at e
 ·cases e
 split at e
 ·cases e
 rename_i hq
 split at e
 ·cases e
 rename_i hc
 split at e
 ·cases e
 split at e
 case h_2 => cases e
 rename_i v hv
 injection e with e; injection e with e1 e2
 have hcut : (Lib.cut (d.data.toList.drop (O + 1).toNat) (partB d O (O + 1)).data.toList).2.2 = true := by simpa using hc
 obtain ⟨r, hr⟩ := cut_yes hcut
 have hqq : ∃ q t, d.data.toList.drop O.toNat = q :: t ∧ q.toNat < 128 := by
  cases s1 : standsB d O ⟨#[34]⟩ with
  | true =>
   obtain ⟨t, ht⟩ := stands_app' (s := [34]) s1
   exact ⟨34, t, ht, by decide⟩
  | false =>
   cases s2 : standsB d O ⟨#[39]⟩ with
   | true =>
    obtain ⟨t, ht⟩ := stands_app' (s := [39]) s2
    exact ⟨39, t, ht, by decide⟩
   | false => exact absurd ⟨s1, s2⟩ hq
 obtain ⟨q, t, hqt, hq128⟩ := hqq
 have hpart : (partB d O (O + 1)).data.toList = [q] := by rw [part_at d O (O + 1) [q] t (by omega) rfl hqt]
 rw [hpart] at hr hv
 have hv1 := (vd_at h h0 (show a0 ≤ O by omega) hqt hq128).2
 have hw := (valid_cut _ hv1 _ q r hr hq128).1
 refine ⟨?_, by rw [← e2]; omega⟩
 rw [← e1]
 exact valT_one (dec_valid _ _ v (Nat.le_refl _) hw hv)
theorem attrs_val (h : validL (d.data.toList.drop a0.toNat) = true) (h0 : 0 ≤ a0) : ∀ (n : Nat) (a : Int) (acc r : List Tok) (a' : Int), a0 ≤ a → ValT acc → attrsF d n a acc = some (r, a') → ValT r ∧ validL (d.data.toList.drop a'.toNat) = true
 | 0, a, acc, r, a', _, _, e => by cases e
 | n + 1, a, acc, r, a', ha, hacc, e => by
  have hs := skip_ge d.data.toList a
  unfold attrsF at e
  split at e
  ·rename_i s1
   injection e with e; injection e with e1 e2
   obtain ⟨t, ht⟩ := stands_app' (s := [62]) s1
   rw [← e1, ← e2]
   exact ⟨valT_app hacc (valT_no (by show ¬ ((3 : Int) = 2 ∨ (3 : Int) = 6); omega)), (vd_at h h0 (show a0 ≤ _ by omega) ht (by decide)).2⟩
  split at e
  ·rename_i s1
   injection e with e; injection e with e1 e2
   obtain ⟨t, ht⟩ := stands_app' (s := [47, 62]) s1
   rw [← e1, ← e2]
   have h2 : d.data.toList.drop (skipP d.data.toList a + 1).toNat = 62 :: t := by
    have : d.data.toList.drop (skipP d.data.toList a + 1).toNat = (d.data.toList.drop (skipP d.data.toList a).toNat).drop 1 := by rw [List.drop_drop]; congr 1; omega
    rw [this, ht]; rfl
   refine ⟨valT_app hacc (valT_no (by show ¬ ((4 : Int) = 2 ∨ (4 : Int) = 6); omega)), ?_⟩
   have := (vd_at h h0 (show a0 ≤ skipP d.data.toList a + 1 by omega) h2 (by decide)).2
   rw [show skipP d.data.toList a + 1 + 1 = skipP d.data.toList a + 2 from by omega] at this
   exact this
  cases hA : attrP d a with
  | none => rw [hA] at e; cases e
  | some v =>
   obtain ⟨new, p⟩ := v
   rw [hA] at e
   obtain ⟨v1, v2⟩ := attr_val h h0 a ha new p hA
   exact attrs_val h h0 n p (acc ++ new) r a' (by omega) (valT_app hacc v1) e
theorem step_val (h : validL (d.data.toList.drop a0.toNat) = true) (h0 : 0 ≤ a0) (new : List Tok) (a' : Int) (e : stepP d a0 = some (new, a')) : ValT new ∧ validL (d.data.toList.drop a'.toNat) = true := by
 unfold stepP at e
 split at e
 ·unfold commentP at e
  simp only at e
  split at e
  ·cases e
  rename_i hi
  split at e
  ·rename_i hp
   injection e with e; injection e with e1 e2
   obtain ⟨t, ht⟩ := List.isPrefixOf_iff_prefix.1 hp
   obtain ⟨i, hii⟩ : ∃ i, Lib.index (d.data.toList.drop (a0.toNat + 4)) [45, 45] = i := ⟨_, rfl⟩
   rw [hii] at hi ht e2
   have h2 : d.data.toList.drop (a0 + 4 + i + 2).toNat = 62 :: t := by
    have : d.data.toList.drop (a0 + 4 + i + 2).toNat = ((d.data.toList.drop (a0.toNat + 4)).drop i.toNat).drop 2 := by rw [List.drop_drop, List.drop_drop]; congr 1; omega
    rw [this, ← ht]; rfl
   rw [← e1, ← e2]
   refine ⟨valT_no (by show ¬ ((7 : Int) = 2 ∨ (7 : Int) = 6); omega), ?_⟩
   have := (vd_at h h0 (show a0 ≤ a0 + 4 + i + 2 by omega) h2 (by decide)).2
   rw [show a0 + 4 + i + 2 + 1 = a0 + 4 + i + 3 from by omega] at this
   exact this
  ·cases e
 split at e
 ·rename_i hst
  unfold plainP at e
  simp only at e
  split at e
  ·rename_i hc
   injection e with e; injection e with e1 e2
   obtain ⟨r, hr⟩ := cut_yes hc
   obtain ⟨t, ht⟩ := stands_app' (s := [60, 33, 91, 67, 68, 65, 84, 65, 91]) hst
   obtain ⟨c, hcc⟩ : ∃ c, (Lib.cut (d.data.toList.drop (a0.toNat + 9)) [93, 93, 62]).1 = c := ⟨_, rfl⟩
   rw [hcc] at hr e1 e2
   have h8 : d.data.toList.drop (a0 + 8).toNat = 91 :: t := by
    have : d.data.toList.drop (a0 + 8).toNat = (d.data.toList.drop a0.toNat).drop 8 := by rw [List.drop_drop]; congr 1; omega
    rw [this, ht]; rfl
   have hv := (vd_at h h0 (show a0 ≤ a0 + 8 by omega) h8 (by decide)).2
   rw [show (a0 + 8 + 1).toNat = a0.toNat + 9 from by omega] at hv
   have hw := (valid_cut _ hv c 93 _ hr (by decide)).1
   have h2 : d.data.toList.drop (a0 + 9 + (c.length : Int) + 2).toNat = 62 :: r := by
    have : d.data.toList.drop (a0 + 9 + (c.length : Int) + 2).toNat = (d.data.toList.drop (a0.toNat + 9)).drop (c.length + 2) := by rw [List.drop_drop]; congr 1; omega
    rw [this, hr, show c ++ ([93, 93, 62] ++ r) = (c ++ [93, 93]) ++ 62 :: r from by simp, List.drop_left' (by simp)]
   rw [← e1, ← e2]
   refine ⟨valT_one hw, ?_⟩
   have := (vd_at h h0 (show a0 ≤ a0 + 9 + (c.length : Int) + 2 by omega) h2 (by decide)).2
   rw [show a0 + 9 + (c.length : Int) + 2 + 1 = a0 + 9 + (c.length : Int) + 3 from by omega] at this
   exact this
  ·cases e
 split at e
 ·unfold closingP at e
  simp only at e
  have hs := name_ge d.data.toList (a0 + 2)
  have hs2 := skip_ge d.data.toList (nameEndP d.data.toList (a0 + 2))
  split at e
  ·cases e
  split at e
  ·rename_i s1
   injection e with e; injection e with e1 e2
   obtain ⟨t, ht⟩ := stands_app' (s := [62]) s1
   rw [← e1, ← e2]
   exact ⟨valT_no (by show ¬ ((5 : Int) = 2 ∨ (5 : Int) = 6); omega), (vd_at h h0 (show a0 ≤ _ by omega) ht (by decide)).2⟩
  ·cases e
 split at e
 ·unfold tagP at e
  simp only at e
  have hs := name_ge d.data.toList (a0 + 1)
  split at e
  ·cases e
  ·exact attrs_val h h0 _ _ _ _ _ (by omega) (valT_no (by show ¬ ((1 : Int) = 2 ∨ (1 : Int) = 6); omega)) e
 ·unfold textP at e
  simp only at e
  obtain ⟨b, hb⟩ : ∃ b, (Lib.cut (d.data.toList.drop a0.toNat) [60]).1 = b := ⟨_, rfl⟩
  rw [hb] at e
  cases hd : dec b with
  | none => rw [hd] at e; cases e
  | some v =>
   rw [hd] at e
   injection e with e; injection e with e1 e2
   have key : validL b = true ∧ validL (d.data.toList.drop (a0 + (b.length : Int)).toNat) = true := by
    cases hc : (Lib.cut (d.data.toList.drop a0.toNat) [60]).2.2 with
    | true =>
     obtain ⟨r, hr⟩ := cut_yes hc
     rw [hb] at hr
     have h1 := valid_cut _ h b 60 r hr (by decide)
     refine ⟨h1.1, ?_⟩
     have : d.data.toList.drop (a0 + (b.length : Int)).toNat = (d.data.toList.drop a0.toNat).drop b.length := by rw [List.drop_drop]; congr 1; omega
     rw [this, hr, List.drop_left]
     exact h1.2
    | false =>
     have := cut_no hc
     rw [hb] at this
     refine ⟨by rw [this]; exact h, ?_⟩
     have e3 : d.data.toList.drop (a0 + (b.length : Int)).toNat = (d.data.toList.drop a0.toNat).drop b.length := by rw [List.drop_drop]; congr 1; omega
     rw [e3, this, List.drop_of_length_le (Nat.le_refl _)]; rfl
   rw [← e1, ← e2]
   exact ⟨valT_one (dec_valid _ _ v (Nat.le_refl _) key.1 hd), key.2⟩
end
theorem lexF_val (d : ByteArray) (n : Nat) : ∀ (a : Int) (acc l : List Tok), 0 ≤ a → validL (d.data.toList.drop a.toNat) = true → ValT acc → lexF d n a acc = some l → ValT l := by
 induction n with
 | zero => intro a acc l _ _ _ h; cases h
 | succ n ih =>
  intro a acc l h0 hv hacc h
  unfold lexF at h
  split at h
  ·rename_i hlt
   cases hS : stepP d a with
   | none => rw [hS] at h; cases h
   | some v =>
    obtain ⟨new, a'⟩ := v
    rw [hS] at h
    have hr := (step_room d a h0 hlt new a' hS).1
    obtain ⟨v1, v2⟩ := step_val hv h0 new a' hS
    exact ih a' (acc ++ new) l (by omega) v2 (valT_app hacc v1) h
  ·obtain rfl := Option.some.inj h
   exact hacc
theorem lexV_val (s : ByteArray) : ValT (lexV s).1 := by
 unfold lexV
 split
 ·intro t ht; cases ht
 split
 ·intro t ht; cases ht
 ·rename_i hv
  cases h : lexO s with
  | none => intro t ht; cases ht
  | some l => exact lexF_val s _ 0 [] l (Int.le_refl _) (by rw [show (0 : Int).toNat = 0 from rfl, List.drop_zero]; simpa using hv) (fun t ht => by cases ht) h
def VP (p : PS) : Prop := (∀ m, m ∈ p.n → validL m.f3.data.toList = true) ∧ validL p.x.data.toList = true
theorem vp_put {p : PS} (h : VP p) (k nm : Int) (v name : ByteArray) (hv : validL v.data.toList = true) : VP (putP p k nm v name) := by
 refine ⟨fun m hm => ?_, h.2⟩
 have hm : m ∈ p.n ++ [⟨k, nm, topP p.o, v⟩] := hm
 rcases List.mem_append.1 hm with hm | hm
 ·exact h.1 m hm
 ·rw [List.mem_singleton.1 hm]; exact hv
theorem vp_flush {p : PS} (h : VP p) : VP (flushP p) := by
 unfold flushP
 split
 ·exact ⟨h.1, rfl⟩
 split
 ·exact ⟨h.1, rfl⟩
 ·exact vp_put (p := { p with x := ⟨#[]⟩ }) ⟨h.1, rfl⟩ 3 (-1) p.x ⟨#[]⟩ h.2
theorem vp_end {p : PS} (h : VP p) (name : ByteArray) : VP (endP p name) := by
 unfold endP
 simp only
 split
 ·exact vp_flush h
 ·exact vp_flush h
theorem vp_step {p : PS} (h : VP p) (t : Tok) (ht : t.f0 = 2 ∨ t.f0 = 6 → validL t.f4.data.toList = true) : VP (X.stepT p t) := by
 unfold X.stepT
 split
 ·exact h
 split
 ·rename_i e
  refine ⟨h.1, ?_⟩
  show validL (p.x ++ t.f4).data.toList = true
  rw [ByteArray.data_append, Array.toList_append, valid_append _ _ h.2]
  exact ht (.inr e)
 split
 ·unfold beginP
  simp only
  exact vp_put (p := { flushP p with wr := _, dp := _ }) (vp_flush h) 1 0 ⟨#[]⟩ t.f3 rfl
 split
 ·rename_i e
  exact vp_put (p := { p with wr := _ }) h 2 0 t.f4 t.f3 (ht (.inl e))
 split
 ·exact vp_end h _
 split
 ·exact vp_end h _
 ·exact h
theorem vp_run : ∀ (l : List Tok) (p : PS), VP p → ValT l → VP (l.foldl X.stepT p)
 | [], p, h, _ => h
 | t :: l, p, h, hl => vp_run l _ (vp_step h t (hl t (List.mem_cons_self ..))) fun u hu => hl u (List.mem_cons_of_mem _ hu)
section
variable {κ κ' : Type} (g : Nd × κ → Nd × κ') (g0 : ∀ c, (g c).1.f0 = c.1.f0) (g2 : ∀ c, (g c).1.f2 = c.1.f2)
include g2 in
theorem kids_map (l : List (Nd × κ)) (p : Int) : kids (l.map g) p = (kids l p).map g := by
 unfold kids
 rw [List.filter_map]
 congr 1
 refine List.filter_congr fun c _ => ?_
 show decide ((g c).1.f2 = p) = decide (c.1.f2 = p)
 rw [g2]
variable [DecidableEq κ] [DecidableEq κ']
include g0 g2 in
theorem right_map (l : List (Nd × κ)) (op : List Int) (c : Nd × κ) (hi : ∀ d, d ∈ l → d.1.f0 = 2 → c.1.f0 = 2 → ((g d).2 = (g c).2 ↔ d.2 = c.2)) : right (l.map g) op (g c).1 (g c).2 = right l op c.1 c.2 := by
 have e1 : (l.map g = []) = (l = []) := by rw [List.map_eq_nil_iff]
 have e2 : ∀ p, more (l.map g) p = more l p := fun p => by
  unfold more
  rw [kids_map g g2, List.any_map]
  congr 1
  funext d
  show decide (¬ (g d).1.f0 = 2) = decide (¬ d.1.f0 = 2)
  rw [g0]
 have e3 : ∀ p, textLast (l.map g) p = textLast l p := fun p => by
  unfold textLast
  rw [kids_map g g2, List.getLast?_map]
  cases (kids l p).getLast? with
  | none => rfl
  | some d => show decide ((g d).1.f0 = 3) = decide (d.1.f0 = 3); rw [g0]
 have e4 : c.1.f0 = 2 → ∀ p, twice (l.map g) p (g c).2 = twice l p c.2 := fun hc p => by
  unfold twice
  rw [kids_map g g2, List.any_map, Bool.eq_iff_iff, List.any_eq_true, List.any_eq_true]
  refine exists_congr fun d => and_congr_right fun hd => ?_
  have hdl : d ∈ l := (List.mem_filter.1 hd).1
  show ((decide ((g d).1.f0 = 2) && decide ((g d).2 = (g c).2)) = true) ↔ _
  rw [g0, Bool.and_eq_true, Bool.and_eq_true, decide_eq_true_eq, decide_eq_true_eq, decide_eq_true_eq]
  exact and_congr_right fun h2 => hi d hdl h2 hc
 unfold right
 simp only [e1, g0, g2, e2, e3, List.length_map]
 split
 ·rfl
 ·split
  ·split
   ·rfl
   ·split
    ·rename_i hc
     rw [e4 hc]
    ·rfl
  ·rfl
include g0 g2 in
theorem run_map : ∀ (R l : List (Nd × κ)) (op : List Int), (∀ c, c ∈ l ++ R → ∀ d, d ∈ l ++ R → c.1.f0 = 2 → d.1.f0 = 2 → ((g d).2 = (g c).2 ↔ d.2 = c.2)) → run (l.map g) (R.map g) op = (run l R op).map fun x => (x.1.map g, x.2)
 | [], l, op, _ => rfl
 | c :: R, l, op, h => by
  rw [List.map_cons, run, run, right_map g g0 g2 l op c (fun d hd h2 hc => h c (by simp) d (by simp [hd]) hc h2)]
  cases right l op c.1 c.2 with
  | none => rfl
  | some o =>
   have := run_map R (l ++ [c]) o (by simpa using h)
   rw [List.map_append] at this
   exact this
end
theorem numbered_f (S : List (List UInt8)) (m : Nod) (s : ByteArray) : (numbered S m s).f0 = m.f0 ∧ (numbered S m s).f2 = m.f2 ∧ (numbered S m s).f3 = m.f3 := by
 unfold numbered; split <;> exact ⟨rfl, rfl, rfl⟩
theorem check_parse (s : ByteArray) (h : (parseV s).2 = 0) : checkV (parseV s).1.1 (parseV s).1.2 = 0 := by
 obtain ⟨p, e, hf, ho, h1, h2, h3, h4, h5⟩ := parse_fit s h
 have hNm : Nmd p := by rw [h5]; exact parse_names s
 have hV : VP p := by rw [h5]; exact vp_flush (vp_run _ _ ⟨fun m hm => (by cases hm), rfl⟩ (lexV_val s))
 rw [h4]
 simp only
 obtain ⟨S, hS⟩ : ∃ S, sortedP (namesOf p) = S := ⟨_, rfl⟩
 have hmem : ∀ c, c ∈ p.n.zip p.s → ¬ c.1.f0 = 3 → c.2.data.toList ∈ S := fun c hc h3 => by
  rw [← hS, P13.mem_sorted]
  unfold namesOf
  rw [List.mem_filterMap]
  exact ⟨c, hc, by rw [if_neg h3]⟩
 have hnd : S.Nodup := by rw [← hS]; exact sorted_nodup _
 have hlen : (P13.treeN p).length = p.n.length := P13.treeN_len p hf.len
 have hT : P13.treeN p = (p.n.zip p.s).map fun c => numbered S c.1 c.2 := by unfold P13.treeN; rw [hS]
 let g : Nd × List UInt8 → Nd × Int := fun c => (numbered S c.1 (bytesL c.2), (numbered S c.1 (bytesL c.2)).f1)
 have hpr : prK (P13.treeN p) = (prs p).map g := by
  unfold prK prs
  rw [hT, List.map_map, List.zip_map_right, List.map_map]
  refine List.map_congr_left fun c _ => ?_
  rfl
 have hinj : ∀ c, c ∈ ([] : List (Nd × List UInt8)) ++ prs p → ∀ d, d ∈ ([] : List (Nd × List UInt8)) ++ prs p → c.1.f0 = 2 → d.1.f0 = 2 → ((g d).2 = (g c).2 ↔ d.2 = c.2) := by
  have hin : ∀ c, c ∈ prs p → c.1.f0 = 2 → c.2 ∈ S := fun c hc h2 => by
   unfold prs at hc
   rw [List.zip_map_right, List.mem_map] at hc
   obtain ⟨q, hq, rfl⟩ := hc
   exact hmem q hq (by show ¬ q.1.f0 = 3; have : q.1.f0 = 2 := h2; omega)
  intro c hc d hd hc2 hd2
  rw [List.nil_append] at hc hd
  have e1 : (g c).2 = (S.idxOf c.2 : Int) := by show (numbered S c.1 (bytesL c.2)).f1 = _; unfold numbered; rw [if_neg (by omega)]; rfl
  have e2 : (g d).2 = (S.idxOf d.2 : Int) := by show (numbered S d.1 (bytesL d.2)).f1 = _; unfold numbered; rw [if_neg (by omega)]; rfl
  rw [e1, e2]
  constructor
  ·intro he
   have i1 := List.idxOf_lt_length_of_mem (hin c hc hc2)
   have i2 := List.idxOf_lt_length_of_mem (hin d hd hd2)
   have g1 : S[S.idxOf c.2] = c.2 := List.getElem_idxOf i1
   have g2' : S[S.idxOf d.2] = d.2 := List.getElem_idxOf i2
   have hee : S.idxOf d.2 = S.idxOf c.2 := by omega
   rw [← g1, ← g2']
   simp only [hee]
  ·intro he; rw [he]
 have hrows : (rows (prK (P13.treeN p))).isSome = true := by
  have hr := hf.row
  unfold rows at hr ⊢
  rw [hpr]
  have := run_map g (fun c => (numbered_f S c.1 _).1) (fun c => (numbered_f S c.1 _).2.1) (prs p) [] [] hinj
  rw [List.map_nil] at this
  rw [this]
  cases hq : run [] (prs p) [] with
  | none => rw [hq] at hr; cases hr
  | some x => rfl
 have hSl : (S.map bytesL).length = S.length := List.length_map _
 have hall : (P13.treeN p).all (okNod (S.map bytesL).length) = true := by
  rw [List.all_eq_true, hT]
  intro y hy
  rw [List.mem_map] at hy
  obtain ⟨c, hc, rfl⟩ := hy
  have hcn : c.1 ∈ p.n := (List.of_mem_zip hc).1
  have hk := hf.kin c.1 hcn
  have hv := hV.1 c.1 hcn
  unfold okNod namedP
  rw [(numbered_f S c.1 c.2).1, (numbered_f S c.1 c.2).2.2, hv, Bool.and_true]
  by_cases h3 : c.1.f0 = 3
  ·rw [if_pos h3]
   rcases hk with k | k | k
   ·omega
   ·omega
   ·have : (numbered S c.1 c.2).f1 = -1 := by unfold numbered; rw [if_pos h3]; exact k.2.1
    rw [this]
    cases hl : c.1.f3.data.toList with
    | nil => exact absurd hl k.2.2
    | cons a t => rfl
  ·rw [if_neg h3]
   have hi := List.idxOf_lt_length_of_mem (hmem c hc h3)
   have hf1 : (numbered S c.1 c.2).f1 = (S.idxOf c.2.data.toList : Int) := by unfold numbered; rw [if_neg h3]
   rw [hf1, decide_eq_true (by omega), decide_eq_true (by rw [hSl]; omega)]
   rcases hk with k | k | k
   ·rw [k.1, k.2]; rfl
   ·rw [k]; rfl
   ·exact absurd k.1 h3
 have hnodes := nodes_rows (S.map bytesL).length (P13.treeN p)
 rw [hall, hrows] at hnodes
 have hnames : namesC (S.map bytesL) (P13.treeN p) = true := by
  unfold namesC
  rw [List.all_eq_true]
  intro k hk
  rw [List.mem_range, hSl] at hk
  have hg : ∀ j (hj : j < S.length), ((S.map bytesL).getD j ⟨#[]⟩) = bytesL S[j] := fun j hj => by rw [List.getD_eq_getElem?_getD, List.getElem?_map, List.getElem?_eq_getElem hj]; rfl
  have hin : S[k] ∈ namesOf p := by
   have := List.getElem_mem hk
   rw [← P13.mem_sorted, hS]; exact this
  unfold namesOf at hin
  rw [List.mem_filterMap] at hin
  obtain ⟨c, hc, hce⟩ := hin
  split at hce
  ·cases hce
  rename_i h3'
  have hce := Option.some.inj hce
  have hnm := hNm c hc h3'
  rw [hce] at hnm
  rw [hg k hk, Bool.and_eq_true, Bool.and_eq_true, Bool.and_eq_true, Bool.or_eq_true, List.any_eq_true]
  refine ⟨⟨_, by rw [hT]; exact List.mem_map.2 ⟨c, hc, rfl⟩, ?_⟩, ⟨?_, ?_⟩, ?_⟩
  ·have hf1 : (numbered S c.1 c.2).f1 = (S.idxOf c.2.data.toList : Int) := by unfold numbered; rw [if_neg h3']
   rw [hf1, hce]
   have hm := List.idxOf_lt_length_of_mem (List.getElem_mem hk)
   have := (List.getElem_inj (h₀ := hm) (h₁ := hk) hnd).1 (List.getElem_idxOf hm)
   rw [this]; simp
  ·have : 0 < S[k].length := hnm.1
   show (!S[k].isEmpty) = true
   cases hl : S[k] with
   | nil => rw [hl] at this; exact absurd this (by simp)
   | cons a t => rfl
  ·show (nameEndP S[k] 0 == ((bytesL S[k]).size : Int)) = true
   rw [beq_iff_eq, Lib.size_eq]
   show nameEndP S[k] 0 = (S[k].length : Int)
   unfold nameEndP
   rw [if_pos ⟨by omega, by have := hnm.1; omega⟩]
   have := hnm.2
   show (0 : Int) + (nameLen (S[k].drop 0) : Int) = _
   rw [List.drop_zero, this]; omega
  ·by_cases k0 : k = 0
   ·exact .inl (decide_eq_true k0)
   ·refine .inr (decide_eq_true ?_)
    rw [hg (k - 1) (by omega)]
    show S[k - 1] < S[k]
    have := sorted_lt (namesOf p) (k - 1) S[k - 1] S[k] (by rw [hS]; exact List.getElem?_eq_getElem (by omega)) (by rw [hS, show k - 1 + 1 = k from by omega]; exact List.getElem?_eq_getElem hk)
    exact this
 rw [hS] at h3 ⊢
 unfold checkV
 rw [hlen, if_neg (by rw [hSl]; omega)]
 have hnn : (nodesC (S.map bytesL).length (P13.treeN p) 0 (zeroC p.n.length)).isNone = false := by
  rw [hlen] at hnodes
  cases hq : nodesC (S.map bytesL).length (P13.treeN p) 0 (zeroC p.n.length) with
  | none => rw [hq] at hnodes; cases hnodes
  | some x => rfl
 rw [hnn, if_neg (by decide), if_pos hnames]
end Go.Proofs.YtlhhhlimjajnlaaGreat.P14
end
