/- Parts of the proof of canonSpoilt_holds, kept and merged by a program of mine (wip/tools/slim.py) out of my texts: CanI CanK CanO CanJ -/
import Derived.Test.YtlhhhlimjajnlaaGreatSSp0
import Derived.WalkSpells
import Derived.Deep.RegionHeld3
import Derived.Test.YtlhhhlimjajnlaaGreatSSp19
import Derived.Test.YtlhhhlimjajnlaaGreatSSp23
import Derived.Test.YtlhhhlimjajnlaaGreatSSp24
import Derived.Test.YtlhhhlimjajnlaaGreatSSp12
import Derived.Test.YtlhhhlimjajnlaaGreatSSp9
section
set_option linter.unusedVariables false
set_option linter.unusedSimpArgs false
namespace Go.Proofs.YtlhhhlimjajnlaaGreat.X
open Go.RowKit Go.Maps Go.Proofs.YtlhhhlimjajnlaaGreat Go.Proofs.YtlhhhlimjajnlaaGreat.Q Go.Proofs.YtlhhhlimjajnlaaGreat.P11 Go.Proofs.YtlhhhlimjajnlaaGreatW.PrintWords Go.Proofs.YtlhhhlimjajnlaaGreatW.PrintLast Go.Proofs.YtlhhhlimjajnlaaGreatW.PrintMore
attribute [local go_sem] max2_int min2_int max_two min_two str_geq   
abbrev xz : Nod := ⟨0, 0, 0, ⟨#[]⟩⟩
structure Lp (w W : World) (tr mb tb ab g u n nn : Nat) (vN vD : Value) (D : List Nod) (R : Option CS) (i : Nat) (s : CS) (f : Nat → Option Nat) (vO : Value) : Prop where
 cr : Cr w W g vN vD vO mb tb ab n s f
 us : W.ownsMap Tryz.prog 3 RB u i (keysI ((D.take i).map (·.f1)))
 un : ∀ p, f p ≠ some u
 uw : w.heap.size ≤ u
 tre : W.heap[tr]? = some (.cells #[vN, vD] 27 (0, 0))
 tw : w.heap.size ≤ tr
 inv : CInv i n s
 res : nodesC nn (D.drop i) i s = R
theorem lp_zero {w W3 : World} (hb : Below w.heap.size w W3) {tr mb tb ab n nn : Nat} {vN vD : Value} {D : List Nod} {R : Option CS} (hR : nodesC nn D 0 (zeroC n) = R)
 (ht : W3.heap[tr]? = some (.cells #[vN, vD] 27 (0, 0))) (h1 : W3.heap[mb]? = some (.cells (bcells (List.replicate n false)) 4 (0, 0))) (h2 : W3.heap[tb]? = some (.cells (bcells (List.replicate n false)) 4 (0, 0))) (h3 : W3.heap[ab]? = some (.cells (mcells (fun _ => none) n) 80 (0, 0)))
 (g0 : w.heap.size ≤ tr) (g1 : w.heap.size ≤ mb) (g2 : w.heap.size ≤ tb) (g3 : w.heap.size ≤ ab) (ne : mb ≠ tb) (g u : Nat) (hg : W3.heap.size = g) (hu : g + 1 = u) :
 Lp w ((W3.alloc (.cells #[vN, vD, .slice none 0 0, .slice (some ⟨mb, 0, none⟩) n n, .slice (some ⟨tb, 0, none⟩) n n, .slice (some ⟨ab, 0, none⟩) n n] 79)).alloc (.map #[] 0)) tr mb tb ab g u n nn vN vD D R 0 (zeroC n) (fun _ => none) (.slice none 0 0) := by
 subst hg hu
 have hB : Below W3.heap.size W3 ((W3.alloc (.cells #[vN, vD, .slice none 0 0, .slice (some ⟨mb, 0, none⟩) n n, .slice (some ⟨tb, 0, none⟩) n n, .slice (some ⟨ab, 0, none⟩) n n] 79)).alloc (.map #[] 0)) := below_alloc (below_alloc (Below.refl _ _) _) _
 have hs : (W3.alloc (.cells #[vN, vD, .slice none 0 0, .slice (some ⟨mb, 0, none⟩) n n, .slice (some ⟨tb, 0, none⟩) n n, .slice (some ⟨ab, 0, none⟩) n n] 79)).heap.size = W3.heap.size + 1 := Array.size_push _
 have hc := blk_below (blk_new W3 (.cells #[vN, vD, .slice none 0 0, .slice (some ⟨mb, 0, none⟩) n n, .slice (some ⟨tb, 0, none⟩) n n, .slice (some ⟨ab, 0, none⟩) n n] 79)) (below_alloc (Below.refl _ _) (.map #[] 0))
 have hw := hb.size
 have ho := World.ownsMap_made (W3.alloc (.cells #[vN, vD, .slice none 0 0, .slice (some ⟨mb, 0, none⟩) n n, .slice (some ⟨tb, 0, none⟩) n n, .slice (some ⟨ab, 0, none⟩) n n] 79)) Tryz.prog 3 RB
 rw [hs] at ho
 refine ⟨⟨hc, hw, Kd.R_nil _ _ _ _ _, blk_below h1 hB, blk_below h2 hB, blk_below h3 hB, List.length_replicate, List.length_replicate, g1, g2, g3, ne, fun p hp => rfl, fun p ks hp => (by cases hp), fun p q b hp => (by cases hp), below_step hb hB⟩, ?_, fun p => by simp, by omega, blk_below ht hB, g0, zero_inv n, hR⟩
 exact ho
theorem cut_of {T G : Prop} (k : T → G) (p : T) : G := k p
theorem six (w : World) (B : Nat) (hB : w.heap.size = B) (T o1 o2 o3 : Obj) : ((((w.alloc T).alloc o1).alloc o2).alloc o3).heap[B]? = some T ∧ ((((w.alloc T).alloc o1).alloc o2).alloc o3).heap[B + 1]? = some o1 ∧ ((((w.alloc T).alloc o1).alloc o2).alloc o3).heap[B + 1 + 1]? = some o2 ∧ ((((w.alloc T).alloc o1).alloc o2).alloc o3).heap[B + 1 + 1 + 1]? = some o3 ∧ ((((w.alloc T).alloc o1).alloc o2).alloc o3).heap.size = B + 1 + 1 + 1 + 1 ∧ Below w.heap.size w ((((w.alloc T).alloc o1).alloc o2).alloc o3) := by
 subst hB
 have al : ∀ (W : World) (o : Obj), (W.alloc o).heap.size = W.heap.size + 1 := fun W o => Array.size_push _
 have a0 := blk_new w T
 have a1 := blk_new (w.alloc T) o1
 have a2 := blk_new ((w.alloc T).alloc o1) o2
 have a3 := blk_new (((w.alloc T).alloc o1).alloc o2) o3
 rw [al] at a1
 rw [al, al] at a2
 rw [al, al, al] at a3
 have r : ∀ W : World, Below W.heap.size W W := fun W => Below.refl _ _
 refine ⟨blk_below a0 (below_alloc (below_alloc (below_alloc (r _) _) _) _), blk_below a1 (below_alloc (below_alloc (r _) _) _), blk_below a2 (below_alloc (r _) _), a3, by rw [al, al, al, al], below_alloc (below_alloc (below_alloc (below_alloc (r _) _) _) _) _⟩
theorem Lp.below {w W W1 : World} {tr mb tb ab g u n nn i : Nat} {vN vD vO : Value} {D : List Nod} {R : Option CS} {s : CS} {f : Nat → Option Nat} (h : Lp w W tr mb tb ab g u n nn vN vD D R i s f vO) (hb : Below W.heap.size W W1) : Lp w W1 tr mb tb ab g u n nn vN vD D R i s f vO :=
 ⟨h.cr.below hb, h.us.kept (grown_of_below hb) (by simp), h.un, h.uw, blk_below h.tre hb, h.tw, h.inv, h.res⟩
theorem frm_facts {w w3 w4 : World} {tr mb tb ab g u n nn i q tq : Nat} {vN vD vO : Value} {D : List Nod} {R : Option CS} {s : CS} {f : Nat → Option Nat} {x : Array Value} (h : Lp w w3 tr mb tb ab g u n nn vN vD D R i s f vO) (hx : w3.heap[q]? = some (.cells x tq (0, 0))) (hfr : Frm w3 w4 g mb tb f) (hg : g < q) (hm : mb < q) (ht : tb < q) :
 w4.heap[q]? = some (.cells x tq (0, 0)) ∧ w4.ownsMap Tryz.prog 3 RB u i (keysI ((D.take i).map (·.f1))) ∧ w4.heap[tr]? = some (.cells #[vN, vD] 27 (0, 0)) :=
 ⟨(hfr q (blk_lt hx) (by omega) (by omega) (by omega) (fun p => h.cr.fne hx p)).trans hx,
  owns_eq h.us (hfr u h.us.lt (owns_ne h.us h.cr.blk) (owns_ne h.us h.cr.bm) (owns_ne h.us h.cr.bt) h.un),
  (hfr tr (blk_lt h.tre) (blk_no h.tre h.cr.blk (by decide)) (blk_no h.tre h.cr.bm (by decide)) (blk_no h.tre h.cr.bt (by decide)) (fun p => h.cr.fne h.tre p)).trans h.tre⟩
theorem lp_done {w w5 : World} {tr mb tb ab g u n nn i : Nat} {vN vD vO : Value} {D : List Nod} {R : Option CS} {s : CS} {f : Nat → Option Nat} {x : Nod} (hc : Cr w w5 g vN vD vO mb tb ab n s f) (ho : w5.ownsMap Tryz.prog 3 RB u (i + 1) (keysI ((D.take (i + 1)).map (·.f1)))) (un : ∀ p, f p ≠ some u) (uw : w.heap.size ≤ u) (ht : w5.heap[tr]? = some (.cells #[vN, vD] 27 (0, 0))) (tw : w.heap.size ≤ tr)
 (hI : (∀ z, z ∈ s.op → 0 ≤ z ∧ z < (i : Int) ∧ ∃ ks, s.a z.toNat = some ks) ∧ s.op.length ≤ i ∧ (∀ p ks, s.a p = some ks → p < i ∧ ks.length ≤ i + 1) ∧ s.m.length = n ∧ s.t.length = n) (hr : nodesC nn (D.drop (i + 1)) (i + 1) (openC s i x) = R) (hx : ¬ x.f0 = 1) :
 Lp w w5 tr mb tb ab g u n nn vN vD D R (i + 1) s f vO := by
 have hs : openC s i x = s := if_neg hx
 have hJ := open_inv (x := x) hI
 rw [hs] at hr hJ
 exact ⟨hc, ho, un, uw, ht, tw, hJ, hr⟩
theorem lp_open {w w5 w6 : World} {tr mb tb ab g u n nn i : Nat} {vN vD vO v : Value} {D : List Nod} {R : Option CS} {s : CS} {f : Nat → Option Nat} {x : Nod} (hc : Cr w w5 g vN vD vO mb tb ab n s f) (ho : w5.ownsMap Tryz.prog 3 RB u (i + 1) (keysI ((D.take (i + 1)).map (·.f1)))) (un : ∀ p, f p ≠ some u) (uw : w.heap.size ≤ u) (ht : w5.heap[tr]? = some (.cells #[vN, vD] 27 (0, 0))) (tw : w.heap.size ≤ tr)
 (hI : (∀ z, z ∈ s.op → 0 ≤ z ∧ z < (i : Int) ∧ ∃ ks, s.a z.toNat = some ks) ∧ s.op.length ≤ i ∧ (∀ p ks, s.a p = some ks → p < i ∧ ks.length ≤ i + 1) ∧ s.m.length = n ∧ s.t.length = n) (hr : nodesC nn (D.drop (i + 1)) (i + 1) (openC s i x) = R) (hx : x.f0 = 1)
 (hg : w5.grownBy w6 vO.ownBlock) (h6 : Cr w (w6.setCell ⟨g, 2, none⟩ v) g vN vD v mb tb ab n { s with op := s.op ++ [(i : Int)] } f) :
 Lp w (((w6.setCell ⟨g, 2, none⟩ v).alloc (.map #[] 0)).setCell ⟨ab, i, none⟩ (.map (some (w6.setCell ⟨g, 2, none⟩ v).heap.size))) tr mb tb ab g u n nn vN vD D R (i + 1) (openC s i x) (fun p => if p = i then some (w6.setCell ⟨g, 2, none⟩ v).heap.size else f p) v := by
 have hai : s.a i = none := by
  cases h : s.a i with
  | none => rfl
  | some ks => have := hI.2.2.1 i ks h; omega
 have hs : openC s i x = { s with op := s.op ++ [(i : Int)], a := fun p => if p = i then some [] else s.a p } := if_pos hx
 have h7 := h6.newk i hai
 have hug : u ≠ g := owns_ne ho hc.blk
 have hu6 := (ho.kept hg (fun e => by obtain ⟨cells, hcc⟩ := Kd.R_typed hc.ro u e.symm; exact owns_ne ho hcc rfl)).setCell (a := ⟨g, 2, none⟩) hug v
 have hua : u ≠ ab := owns_ne ho hc.ba
 have htg : tr ≠ g := blk_no ht hc.blk (by decide)
 have hta : tr ≠ ab := blk_no ht hc.ba (by decide)
 have ht6 : (w6.setCell ⟨g, 2, none⟩ v).heap[tr]? = some (.cells #[vN, vD] 27 (0, 0)) := blk_far (blk_grown ht hg (Kd.R_ne hc.ro ht (by decide))) htg v
 refine ⟨by rw [hs]; exact h7, (hu6.alloc (.map #[] 0)).setCell hua _, ?_, uw, blk_far (blk_below ht6 (below_alloc (Below.refl _ _) _)) hta _, tw, open_inv hI, hr⟩
 intro p e
 have e : (if p = i then some (w6.setCell ⟨g, 2, none⟩ v).heap.size else f p) = some u := e
 by_cases c : p = i
 ·rw [if_pos c] at e
  injection e with e
  have := hu6.lt
  omega
 ·rw [if_neg c] at e
  exact un p e
def goodN (N : List ByteArray) (D : List Nod) (k : Nat) : Bool := (D.any fun x => decide (x.f1 = (k : Int))) && ((!(N.getD k ⟨#[]⟩).data.toList.isEmpty && (nameEndP (N.getD k ⟨#[]⟩).data.toList 0 == ((N.getD k ⟨#[]⟩).size : Int))) && (decide (k = 0) || decide ((N.getD (k - 1) ⟨#[]⟩).data.toList < (N.getD k ⟨#[]⟩).data.toList)))
def goodAll (N : List ByteArray) (D : List Nod) (k : Nat) : Bool := (List.range k).all (goodN N D)
theorem goodAll_step {N : List ByteArray} {D : List Nod} {k : Nat} (h : goodAll N D k = true) (g : goodN N D k = true) : goodAll N D (k + 1) = true := by
 unfold goodAll at *
 rw [List.range_succ, List.all_append, h, List.all_cons, g]; rfl
theorem goodAll_bad {N : List ByteArray} {D : List Nod} {k : Nat} (hk : k < N.length) (g : goodN N D k = false) : ¬ namesC N D = true := by
 intro h
 have h : (List.range N.length).all (goodN N D) = true := h
 have := List.all_eq_true.1 h k (List.mem_range.2 hk)
 rw [g] at this; cases this
theorem any_mem (D : List Nod) (k : Int) : (D.any fun x => decide (x.f1 = k)) = decide (k ∈ D.map (·.f1)) := by
 rw [Bool.eq_iff_iff, List.any_eq_true, decide_eq_true_iff, List.mem_map]
 exact ⟨fun ⟨x, h1, h2⟩ => ⟨x, h1, by simpa using h2⟩, fun ⟨x, h1, h2⟩ => ⟨x, h1, by simpa using h2⟩⟩
theorem name_bit (s : List UInt8) (z : Int) : (if s = [] then false else nameEndP s 0 == z) = (!s.isEmpty && (nameEndP s 0 == z)) := by
 cases s with
 | nil => rfl
 | cons a r => rfl
theorem goodN_of {N : List ByteArray} {D : List Nod} {k : Nat} {S : ByteArray} (hS : N.getD k ⟨#[]⟩ = S) {b1 b2 b3 : Bool} (h1 : decide ((k : Int) ∈ D.map (·.f1)) = b1) (h2 : (if S.data.toList = [] then false else nameEndP S.data.toList 0 == (S.size : Int)) = b2) (h3 : (decide (k = 0) || decide ((N.getD (k - 1) ⟨#[]⟩).data.toList < S.data.toList)) = b3) : goodN N D k = (b1 && (b2 && b3)) := by
 unfold goodN
 rw [hS, any_mem, h1, ← name_bit, h2, h3]
set_option maxHeartbeats 16000000 in
set_option maxRecDepth 100000 in
theorem check_c {w : World} {AN AD : Option Addr} {cN cD : Nat} {N : List ByteArray} {D : List Nod} (hN : Kd.C Kd.string w AN N.length N) (hD : Kd.C k41 w AD D.length D) (hl : 0 < D.length) (hl2 : D.length ≤ 5000) (hl3 : N.length ≤ 1000) (hDs : ∀ x, x ∈ D → x.f3.size ≤ 4294967280) (hNs : ∀ x, x ∈ N → x.size ≤ 4294967280) (V : Int) (hV0 : nodesC N.length D 0 (zeroC D.length) = none → V = 1) (hV1 : ¬ nodesC N.length D 0 (zeroC D.length) = none → V = if namesC N D = true then 0 else 1) :
 Calls Tryz.prog 19 #[.agg #[.slice AN N.length cN, .slice AD D.length cD]] w fun e w' => e = .returned (.int .i64 V) ∧ Below w.heap.size w w' := by
 obtain ⟨n, hn⟩ : ∃ n, D.length = n := ⟨_, rfl⟩
 obtain ⟨nn, hnn⟩ : ∃ nn, N.length = nn := ⟨_, rfl⟩
 rw [hn, hnn] at hV0 hV1
 have HN := Lib.hid hN
 have HD := Lib.hid hD
 obtain ⟨R, hR⟩ : ∃ R, nodesC nn D 0 (zeroC n) = R := ⟨_, rfl⟩
 have HR := Lib.hid hR
 rw [hR] at hV0 hV1
 have HV0 := Lib.hid hV0
 have HV1 := Lib.hid hV1
 have HDS := Lib.hid hDs
 have HNS := Lib.hid hNs
 rw [hn] at hl hl2 HD ⊢
 rw [hnn] at hl3 HN ⊢
 clear hN hD hR hV0 hV1 hDs hNs
 have p0 : ((n : Int) == 0) = false := beqI_f (by omega)
 have p1 : ((5000 : Int) < (n : Int)) = False := eq_false (by omega)
 have p2 : ((1000 : Int) < (nn : Int)) = False := eq_false (by omega)
 have p3 : ((0 : Int) ≤ (n : Int)) = True := eq_true (by omega)
 have hmm := @run_makeMap Tryz.prog
 have hmb := fun W => make_b W n hl2
 have hmc := fun W => make_m W n hl2
 go_enter Tryz.func19, Tryz.ntmps19
 go_wp2
 obtain ⟨B, hB⟩ : ∃ B, w.heap.size = B := ⟨_, rfl⟩
 have q0 : w.heap.size ≤ B := by omega
 have q1 : w.heap.size ≤ B + 1 := by omega
 have q2 : w.heap.size ≤ B + 1 + 1 := by omega
 have q3 : w.heap.size ≤ B + 1 + 1 + 1 := by omega
 have q12 : B + 1 ≠ B + 1 + 1 := by omega
 have q13 : B + 1 ≠ B + 1 + 1 + 1 := by omega
 have q23 : B + 1 + 1 ≠ B + 1 + 1 + 1 := by omega
 apply cut_of
 case k =>
  intro key
  go_region
  all_goals (try go_wp2)
  all_goals rw [hB]
  all_goals rename_i K hK
  ·have hL : Lp w (((((((w.alloc (.cells #[.slice AN nn cN, .slice AD n cD] 27)).alloc (.cells (bcells (List.replicate n false)) 4)).alloc (.cells (bcells (List.replicate n false)) 4)).alloc (.cells (mcells (fun _ => none) n) 80)).alloc (.cells #[.slice AN nn cN, .slice AD n cD, .slice none 0 0, .slice (some ⟨B + 1, 0, none⟩) n n, .slice (some ⟨B + 1 + 1, 0, none⟩) n n, .slice (some ⟨B + 1 + 1 + 1, 0, none⟩) n n] 79)).alloc (.map #[] 0))) B (B + 1) (B + 1 + 1) (B + 1 + 1 + 1) (B + 1 + 1 + 1 + 1) (B + 1 + 1 + 1 + 1 + 1) n nn (.slice AN nn cN) (.slice AD n cD) D R 0 (zeroC n) (fun _ => none) (.slice none 0 0) := lp_zero (six w B hB _ _ _ _).2.2.2.2.2 HR.out (six w B hB _ _ _ _).1 (six w B hB _ _ _ _).2.1 (six w B hB _ _ _ _).2.2.1 (six w B hB _ _ _ _).2.2.2.1 q0 q1 q2 q3 q12 _ _ (six w B hB _ _ _ _).2.2.2.2.1 rfl
   generalize ((((((w.alloc (.cells #[.slice AN nn cN, .slice AD n cD] 27)).alloc (.cells (bcells (List.replicate n false)) 4)).alloc (.cells (bcells (List.replicate n false)) 4)).alloc (.cells (mcells (fun _ => none) n) 80)).alloc (.cells #[.slice AN nn cN, .slice AD n cD, .slice none 0 0, .slice (some ⟨B + 1, 0, none⟩) n n, .slice (some ⟨B + 1 + 1, 0, none⟩) n n, .slice (some ⟨B + 1 + 1 + 1, 0, none⟩) n n] 79)).alloc (.map #[] 0)) = W at hL ⊢
   generalize B + 1 + 1 + 1 + 1 + 1 = u at hL ⊢
   generalize B + 1 + 1 + 1 + 1 = g at hL ⊢
   generalize B + 1 + 1 + 1 = ab at hL ⊢
   generalize B + 1 + 1 = tb at hL ⊢
   generalize B + 1 = mb at hL ⊢
   revert hL
   revert W
   revert u
   revert g
   revert ab
   revert tb
   revert mb
   revert hK
   revert K
   exact key
  all_goals first
   | exact key K hK (B + 1) (B + 1 + 1) (B + 1 + 1 + 1) (B + 1 + 1 + 1 + 1) (B + 1 + 1 + 1 + 1 + 1) _ (lp_zero (six w B hB _ _ _ _).2.2.2.2.2 HR.out (six w B hB _ _ _ _).1 (six w B hB _ _ _ _).2.1 (six w B hB _ _ _ _).2.2.1 (six w B hB _ _ _ _).2.2.2.1 q0 q1 q2 q3 q12 _ _ (six w B hB _ _ _ _).2.2.2.2.1 rfl)
   | exact key K hK (B + 1) (B + 1 + 1 + 1) (B + 1 + 1) (B + 1 + 1 + 1 + 1) (B + 1 + 1 + 1 + 1 + 1) _ (lp_zero (six w B hB _ _ _ _).2.2.2.2.2 HR.out (six w B hB _ _ _ _).1 (six w B hB _ _ _ _).2.1 (six w B hB _ _ _ _).2.2.2.1 (six w B hB _ _ _ _).2.2.1 q0 q1 q3 q2 q13 _ _ (six w B hB _ _ _ _).2.2.2.2.1 rfl)
   | exact key K hK (B + 1 + 1) (B + 1) (B + 1 + 1 + 1) (B + 1 + 1 + 1 + 1) (B + 1 + 1 + 1 + 1 + 1) _ (lp_zero (six w B hB _ _ _ _).2.2.2.2.2 HR.out (six w B hB _ _ _ _).1 (six w B hB _ _ _ _).2.2.1 (six w B hB _ _ _ _).2.1 (six w B hB _ _ _ _).2.2.2.1 q0 q2 q1 q3 (Ne.symm q12) _ _ (six w B hB _ _ _ _).2.2.2.2.1 rfl)
   | exact key K hK (B + 1 + 1) (B + 1 + 1 + 1) (B + 1) (B + 1 + 1 + 1 + 1) (B + 1 + 1 + 1 + 1 + 1) _ (lp_zero (six w B hB _ _ _ _).2.2.2.2.2 HR.out (six w B hB _ _ _ _).1 (six w B hB _ _ _ _).2.2.1 (six w B hB _ _ _ _).2.2.2.1 (six w B hB _ _ _ _).2.1 q0 q2 q3 q1 q23 _ _ (six w B hB _ _ _ _).2.2.2.2.1 rfl)
   | exact key K hK (B + 1 + 1 + 1) (B + 1) (B + 1 + 1) (B + 1 + 1 + 1 + 1) (B + 1 + 1 + 1 + 1 + 1) _ (lp_zero (six w B hB _ _ _ _).2.2.2.2.2 HR.out (six w B hB _ _ _ _).1 (six w B hB _ _ _ _).2.2.2.1 (six w B hB _ _ _ _).2.1 (six w B hB _ _ _ _).2.2.1 q0 q3 q1 q2 (Ne.symm q13) _ _ (six w B hB _ _ _ _).2.2.2.2.1 rfl)
   | exact key K hK (B + 1 + 1 + 1) (B + 1 + 1) (B + 1) (B + 1 + 1 + 1 + 1) (B + 1 + 1 + 1 + 1 + 1) _ (lp_zero (six w B hB _ _ _ _).2.2.2.2.2 HR.out (six w B hB _ _ _ _).1 (six w B hB _ _ _ _).2.2.2.1 (six w B hB _ _ _ _).2.2.1 (six w B hB _ _ _ _).2.1 q0 q3 q2 q1 (Ne.symm q23) _ _ (six w B hB _ _ _ _).2.2.2.2.1 rfl)
 case p =>
  clear hmb hmc
  intro K hK mb tb ab g u W hL
  go_loopw [38] (fun t wr => ∃ i : Nat, i ≤ n ∧ t = .int .i64 i ∧ ∃ s f vO, Hid (Lp w wr B mb tb ab g u n nn (.slice AN nn cN) (.slice AD n cD) D R i s f vO)) (fun t wr => n - (intOf t).toNat)
  case atStart => exact ⟨0, Nat.zero_le _, rfl, _, _, _, Lib.hid (by first | exact hL | exact hL.below (below_drew (Below.refl _ _)))⟩
  case round =>
   clear hL
   obtain ⟨i, hi, rfl, s, f, vO, HL⟩ := hrel
   by_cases hlt : i < n
   ·have hC := Kd.C_below HD.out HL.out.cr.bel
    obtain ⟨ad, hA, r0, r1, r2, r3⟩ := at_T41 hC (i : Int) (by omega) (by omega)
    subst hA
    have hrd : rd_T41 D (i : Int) = D.getD i xz := by unfold rd_T41; rw [Int.toNat_natCast]; rfl
    rw [hrd, Int.toNat_natCast] at r0 r1 r2 r3
    have hiD : i < D.length := by omega
    have hmem : D.getD i xz ∈ D := by rw [List.getD_eq_getElem?_getD, List.getElem?_eq_getElem hiD]; exact List.getElem_mem hiD
    have hdrop : D.drop i = D.getD i xz :: D.drop (i + 1) := by rw [List.drop_eq_getElem_cons hiD, List.getD_eq_getElem?_getD, List.getElem?_eq_getElem hiD]; rfl
    have htake : (D.take (i + 1)).map (·.f1) = (D.take i).map (·.f1) ++ [(D.getD i xz).f1] := by rw [List.take_add_one, List.map_append, List.getD_eq_getElem?_getD, List.getElem?_eq_getElem hiD]; rfl
    have hxs := HDS.out _ hmem
    have hres := HL.out.res
    rw [hdrop] at hres
    obtain ⟨x, hx⟩ : ∃ x, D.getD i xz = x := ⟨_, rfl⟩
    rw [hx] at r0 r1 r2 r3 hxs hres htake
    have hres : (match stepC nn s i x with | none => none | some s' => nodesC nn (D.drop (i + 1)) (i + 1) s') = R := hres
    have HTK := Lib.hid htake
    have hVa : ∀ W, Calls Tryz.prog 46 #[.string x.f3] W fun e w' => e = .returned (.bool (validL x.f3.data.toList)) ∧ Below W.heap.size W w' := fun W => chars_Valid.calls (x.f3.size + 2 + 0) x.f3 _ W (valid_f x.f3 (by omega) 0)
    have p0 : ((0 : Int) ≤ (i : Int)) = True := eq_true (by omega)
    have p1 : ((i : Int) < (n : Int)) = True := eq_true (by omega)
    have e1 : IntKind.i64.wrap ((i : Int) + 1) = ((i + 1 : Nat) : Int) := zz15
    have HVA := Lib.hid hVa
    have HLT := Lib.hid hlt
    have HL2 := Lib.hid hl2
    have HL3 := Lib.hid hl3
    clear hVa hdrop htake hmem hiD hrd hC hx
    unfold stepC at hres
    by_cases nm : namedP nn x = true
    rotate_left
    ·rw [if_neg (fun h => nm h.1)] at hres
     have hR1 : V = 1 := HV0.out hres.symm
     have HR1 := Lib.hid hR1
     have nmf : namedP nn x = false := by simpa using nm
     have HNM := Lib.hid nmf
     clear hres hR1 nm nmf
     go_wp2_with (go_at_call 45; refine (named_c (HL.out.cr.below (zz2)) (by have := HL3.out; omega) x).mono ?_; rw [HNM.out]; rintro e w2 ⟨rfl, hb2⟩; have hbx2 : w2.heap[wr.heap.size]? = some (.cells #[.int .i64 x.f0, .int .i64 x.f1, .int .i64 x.f2, .string x.f3] 41 (0, 0)) := blk_below (blk_new wr _) hb2; have hy0 := (blk_cell hbx2 0).trans (show _ = some (Value.int .i64 x.f0) from rfl); have hy1 := (blk_cell hbx2 1).trans (show _ = some (Value.int .i64 x.f1) from rfl); have hy2 := (blk_cell hbx2 2).trans (show _ = some (Value.int .i64 x.f2) from rfl); have hy3 := (blk_cell hbx2 3).trans (show _ = some (Value.string x.f3) from rfl); have HBX2 := Lib.hid hbx2; have H2 := Lib.hid (HL.out.below (below_step (below_alloc (Below.refl wr.heap.size wr) _) hb2)); clear hb2 hbx2)
     first | go_ret | go_ret2 | go_ret3
     exact ⟨congrArg (fun z => Ending.returned (Value.int .i64 z)) HR1.out.symm, H2.out.cr.bel⟩
    have HNM := Lib.hid nm
    by_cases vl : validL x.f3.data.toList = true
    rotate_left
    ·rw [if_neg (fun h => vl h.2)] at hres
     have hR1 : V = 1 := HV0.out hres.symm
     have HR1 := Lib.hid hR1
     have vlf : validL x.f3.data.toList = false := by simpa using vl
     have HVL := Lib.hid vlf
     clear hres hR1 nm vl vlf
     go_wp2_with (first | (go_at_call 45; refine (named_c (HL.out.cr.below (zz2)) (by have := HL3.out; omega) x).mono ?_; rw [HNM.out]; rintro e w2 ⟨rfl, hb2⟩; have hbx2 : w2.heap[wr.heap.size]? = some (.cells #[.int .i64 x.f0, .int .i64 x.f1, .int .i64 x.f2, .string x.f3] 41 (0, 0)) := blk_below (blk_new wr _) hb2; have hy0 := (blk_cell hbx2 0).trans (show _ = some (Value.int .i64 x.f0) from rfl); have hy1 := (blk_cell hbx2 1).trans (show _ = some (Value.int .i64 x.f1) from rfl); have hy2 := (blk_cell hbx2 2).trans (show _ = some (Value.int .i64 x.f2) from rfl); have hy3 := (blk_cell hbx2 3).trans (show _ = some (Value.string x.f3) from rfl); have HBX2 := Lib.hid hbx2; have H2 := Lib.hid (HL.out.below (below_step (below_alloc (Below.refl wr.heap.size wr) _) hb2)); clear hb2 hbx2) | (go_at_call 46; refine (HVA.out _).mono ?_; rw [HVL.out]; rintro e w3 ⟨rfl, hb3⟩; have hbx3 := blk_below HBX2.out hb3; have hz0 := (blk_cell hbx3 0).trans (show _ = some (Value.int .i64 x.f0) from rfl); have hz1 := (blk_cell hbx3 1).trans (show _ = some (Value.int .i64 x.f1) from rfl); have hz2 := (blk_cell hbx3 2).trans (show _ = some (Value.int .i64 x.f2) from rfl); have hz3 := (blk_cell hbx3 3).trans (show _ = some (Value.string x.f3) from rfl); have HBX3 := Lib.hid hbx3; have H3 := Lib.hid (H2.out.below hb3); clear hb3 hbx3))
     first | go_ret | go_ret2 | go_ret3
     exact ⟨congrArg (fun z => Ending.returned (Value.int .i64 z)) HR1.out.symm, H3.out.cr.bel⟩
    have HVL := Lib.hid vl
    rw [if_pos ⟨nm, vl⟩] at hres
    cases hrt : rightC s i x with
    | none =>
     rw [hrt] at hres
     have hR1 : V = 1 := HV0.out hres.symm
     have HR1 := Lib.hid hR1
     have HRT := Lib.hid hrt
     clear hres hR1 nm vl hrt
     go_wp2_with (first | (go_at_call 45; refine (named_c (HL.out.cr.below (zz2)) (by have := HL3.out; omega) x).mono ?_; rw [HNM.out]; rintro e w2 ⟨rfl, hb2⟩; have hbx2 : w2.heap[wr.heap.size]? = some (.cells #[.int .i64 x.f0, .int .i64 x.f1, .int .i64 x.f2, .string x.f3] 41 (0, 0)) := blk_below (blk_new wr _) hb2; have hy0 := (blk_cell hbx2 0).trans (show _ = some (Value.int .i64 x.f0) from rfl); have hy1 := (blk_cell hbx2 1).trans (show _ = some (Value.int .i64 x.f1) from rfl); have hy2 := (blk_cell hbx2 2).trans (show _ = some (Value.int .i64 x.f2) from rfl); have hy3 := (blk_cell hbx2 3).trans (show _ = some (Value.string x.f3) from rfl); have HBX2 := Lib.hid hbx2; have H2 := Lib.hid (HL.out.below (below_step (below_alloc (Below.refl wr.heap.size wr) _) hb2)); clear hb2 hbx2) | (go_at_call 46; refine (HVA.out _).mono ?_; rw [HVL.out]; rintro e w3 ⟨rfl, hb3⟩; have hbx3 := blk_below HBX2.out hb3; have hz0 := (blk_cell hbx3 0).trans (show _ = some (Value.int .i64 x.f0) from rfl); have hz1 := (blk_cell hbx3 1).trans (show _ = some (Value.int .i64 x.f1) from rfl); have hz2 := (blk_cell hbx3 2).trans (show _ = some (Value.int .i64 x.f2) from rfl); have hz3 := (blk_cell hbx3 3).trans (show _ = some (Value.string x.f3) from rfl); have HBX3 := Lib.hid hbx3; have H3 := Lib.hid (H2.out.below hb3); clear hb3 hbx3) | (go_at_call 47; refine (right_none H3.out.cr H3.out.inv HLT.out HL2.out HL3.out x HNM.out HRT.out).mono ?_; rintro e w4 ⟨rfl, hb4⟩; have HB4 := Lib.hid hb4; clear hb4))
     first | go_ret | go_ret2 | go_ret3
     exact ⟨congrArg (fun z => Ending.returned (Value.int .i64 z)) HR1.out.symm, HB4.out⟩
    | some s' =>
     rw [hrt] at hres
     have hres : nodesC nn (D.drop (i + 1)) (i + 1) (openC s' i x) = R := hres
     have HRS := Lib.hid hres
     have HRT := Lib.hid hrt
     have HI' := Lib.hid (right_inv HL.out.inv hrt)
     have hrange : -9223372036854775808 ≤ x.f1 ∧ x.f1 ≤ 9223372036854775807 := by
      unfold namedP at nm
      split at nm
      ·simp at nm; omega
      ·simp at nm; omega
     have HKEY := Lib.hid (keyI x.f1 hrange.1 hrange.2)
     have HKS := Lib.hid (show i < maxLen from by unfold maxLen; omega)
     clear hres nm vl hrt hrange
     by_cases k1 : x.f0 = 1
     ·have d1 : (x.f0 == 1) = true := by rw [k1]; rfl
      have HK1 := Lib.hid k1
      clear k1
      go_wp2_with (first | (go_at_call 45; refine (named_c (HL.out.cr.below (zz2)) (by have := HL3.out; omega) x).mono ?_; rw [HNM.out]; rintro e w2 ⟨rfl, hb2⟩; have hbx2 : w2.heap[wr.heap.size]? = some (.cells #[.int .i64 x.f0, .int .i64 x.f1, .int .i64 x.f2, .string x.f3] 41 (0, 0)) := blk_below (blk_new wr _) hb2; have hy0 := (blk_cell hbx2 0).trans (show _ = some (Value.int .i64 x.f0) from rfl); have hy1 := (blk_cell hbx2 1).trans (show _ = some (Value.int .i64 x.f1) from rfl); have hy2 := (blk_cell hbx2 2).trans (show _ = some (Value.int .i64 x.f2) from rfl); have hy3 := (blk_cell hbx2 3).trans (show _ = some (Value.string x.f3) from rfl); have HBX2 := Lib.hid hbx2; have H2 := Lib.hid (HL.out.below (below_step (below_alloc (Below.refl wr.heap.size wr) _) hb2)); clear hb2 hbx2) | (go_at_call 46; refine (HVA.out _).mono ?_; rw [HVL.out]; rintro e w3 ⟨rfl, hb3⟩; have hbx3 := blk_below HBX2.out hb3; have hz0 := (blk_cell hbx3 0).trans (show _ = some (Value.int .i64 x.f0) from rfl); have hz1 := (blk_cell hbx3 1).trans (show _ = some (Value.int .i64 x.f1) from rfl); have hz2 := (blk_cell hbx3 2).trans (show _ = some (Value.int .i64 x.f2) from rfl); have hz3 := (blk_cell hbx3 3).trans (show _ = some (Value.string x.f3) from rfl); have HBX3 := Lib.hid hbx3; have H3 := Lib.hid (H2.out.below hb3); clear hb3 hbx3) | (go_at_call 47; refine (right_some H3.out.cr H3.out.inv HLT.out HL2.out HL3.out x HNM.out HRT.out).mono ?_; rintro e w4 ⟨rfl, hfrm, vO4, hcr⟩; obtain ⟨A4, c4, rfl, -, -⟩ := Kd.R_reads hcr.ro; obtain ⟨hbx4, hus4, htr4⟩ := frm_facts H3.out HBX3.out hfrm (blk_lt HL.out.cr.blk) (blk_lt HL.out.cr.bm) (blk_lt HL.out.cr.bt); obtain ⟨w5, hrun5, ho5, hg5⟩ := World.ownsMap.update (w := w4) hus4 KI Tryz.underlying80 HKS.out HKEY.out (plainElem_bool Tryz.underlying4 true); have hcr5 := hcr.keepu hg5 hus4 H3.out.un H3.out.uw; have hput : w5.ownsMap Tryz.prog 3 RB u (i + 1) (keysI ((D.take (i + 1)).map (·.f1))) := (by rw [HTK.out]; unfold keysI; rw [List.map_append, List.map_singleton, setOf_snoc]; exact ho5); have hbx5 := blk_grown hbx4 hg5 (fun e => by injection e with e; exact owns_ne hus4 hbx4 e.symm); have htr5 := blk_grown htr4 hg5 (fun e => by injection e with e; exact owns_ne hus4 htr4 e.symm); have ha0 := (blk_cell hbx4 0).trans (show _ = some (Value.int .i64 x.f0) from rfl); have ha1 := (blk_cell hbx4 1).trans (show _ = some (Value.int .i64 x.f1) from rfl); have hb0 := (blk_cell hbx5 0).trans (show _ = some (Value.int .i64 x.f0) from rfl); have hq2 := hcr5.c2; have hqa : ∀ o : Obj, (w5.alloc o).cell? ⟨g, 2, none⟩ = _ := fun o => (hcr5.alloc o).c2; have HUN := Lib.hid H3.out.un; have HUW := Lib.hid H3.out.uw; have HTW := Lib.hid H3.out.tw; have HC5 := Lib.hid hcr5; have HO5 := Lib.hid hput; have HT5 := Lib.hid htr5; clear hcr hcr5 hput htr5 htr4 hbx4 hbx5 hus4 hfrm ho5 hg5) | (at_builtin; refine Cr.list (w0 := w) (g := g) (s := s') HC5.out (by have := HI'.out.2.1; have := HL2.out; omega) (i : Int) (.tmp 70) (.tmp 72) (by rfl) (by rfl) (by rfl) (by first | rfl | exact congrArg (fun n => Value.slice (some ⟨n, 0, none⟩) 1 1) (by simp)) (by rfl) ?_; intro A6 c6 w6 hcr6 hd6 he6 hg6; have hb6 := blk_grown HC5.out.blk hg6 (Kd.R_ne HC5.out.ro HC5.out.blk (by decide)); have hm6 := (blk_cell hb6 4); have hz5 := (blk_cell hb6 5).trans rfl; have hz5' := hcr6.c5; have hfa : ∀ o : Obj, ((w6.setCell ⟨g, 2, none⟩ (.slice A6 (s'.op.length + 1) c6)).alloc o).frozen? ⟨ab, i, none⟩ = false := fun o => (hcr6.alloc o).fa i; have hca : ∀ o : Obj, ((w6.setCell ⟨g, 2, none⟩ (.slice A6 (s'.op.length + 1) c6)).alloc o).cell? ⟨ab, i, none⟩ = _ := fun o => (hcr6.alloc o).ca i HLT.out; have HC6 := Lib.hid hcr6; have HG6 := Lib.hid hg6; clear hcr6 hg6 hb6 hm6))
      go_roundw
      case rel =>
       have hsz : (w6.setCell ⟨g, 2, none⟩ (.slice A6 (s'.op.length + 1) c6)).heap.size = w6.heap.size := by simp
       have h := lp_open HC5.out HO5.out HUN.out HUW.out HT5.out HTW.out HI'.out HRS.out HK1.out HG6.out HC6.out
       rw [hsz] at h
       exact ⟨i + 1, by omega, by first | rfl | go_num, _, _, _, Lib.hid h⟩
      case measure => simp [intOf]; omega
     ·have d1 := beqI_f k1
      have HK1 := Lib.hid k1
      clear k1
      go_wp2_with (first | (go_at_call 45; refine (named_c (HL.out.cr.below (zz2)) (by have := HL3.out; omega) x).mono ?_; rw [HNM.out]; rintro e w2 ⟨rfl, hb2⟩; have hbx2 : w2.heap[wr.heap.size]? = some (.cells #[.int .i64 x.f0, .int .i64 x.f1, .int .i64 x.f2, .string x.f3] 41 (0, 0)) := blk_below (blk_new wr _) hb2; have hy0 := (blk_cell hbx2 0).trans (show _ = some (Value.int .i64 x.f0) from rfl); have hy1 := (blk_cell hbx2 1).trans (show _ = some (Value.int .i64 x.f1) from rfl); have hy2 := (blk_cell hbx2 2).trans (show _ = some (Value.int .i64 x.f2) from rfl); have hy3 := (blk_cell hbx2 3).trans (show _ = some (Value.string x.f3) from rfl); have HBX2 := Lib.hid hbx2; have H2 := Lib.hid (HL.out.below (below_step (below_alloc (Below.refl wr.heap.size wr) _) hb2)); clear hb2 hbx2) | (go_at_call 46; refine (HVA.out _).mono ?_; rw [HVL.out]; rintro e w3 ⟨rfl, hb3⟩; have hbx3 := blk_below HBX2.out hb3; have hz0 := (blk_cell hbx3 0).trans (show _ = some (Value.int .i64 x.f0) from rfl); have hz1 := (blk_cell hbx3 1).trans (show _ = some (Value.int .i64 x.f1) from rfl); have hz2 := (blk_cell hbx3 2).trans (show _ = some (Value.int .i64 x.f2) from rfl); have hz3 := (blk_cell hbx3 3).trans (show _ = some (Value.string x.f3) from rfl); have HBX3 := Lib.hid hbx3; have H3 := Lib.hid (H2.out.below hb3); clear hb3 hbx3) | (go_at_call 47; refine (right_some H3.out.cr H3.out.inv HLT.out HL2.out HL3.out x HNM.out HRT.out).mono ?_; rintro e w4 ⟨rfl, hfrm, vO4, hcr⟩; obtain ⟨A4, c4, rfl, -, -⟩ := Kd.R_reads hcr.ro; obtain ⟨hbx4, hus4, htr4⟩ := frm_facts H3.out HBX3.out hfrm (blk_lt HL.out.cr.blk) (blk_lt HL.out.cr.bm) (blk_lt HL.out.cr.bt); obtain ⟨w5, hrun5, ho5, hg5⟩ := World.ownsMap.update (w := w4) hus4 KI Tryz.underlying80 HKS.out HKEY.out (plainElem_bool Tryz.underlying4 true); have hcr5 := hcr.keepu hg5 hus4 H3.out.un H3.out.uw; have hput : w5.ownsMap Tryz.prog 3 RB u (i + 1) (keysI ((D.take (i + 1)).map (·.f1))) := (by rw [HTK.out]; unfold keysI; rw [List.map_append, List.map_singleton, setOf_snoc]; exact ho5); have hbx5 := blk_grown hbx4 hg5 (fun e => by injection e with e; exact owns_ne hus4 hbx4 e.symm); have htr5 := blk_grown htr4 hg5 (fun e => by injection e with e; exact owns_ne hus4 htr4 e.symm); have ha0 := (blk_cell hbx4 0).trans (show _ = some (Value.int .i64 x.f0) from rfl); have ha1 := (blk_cell hbx4 1).trans (show _ = some (Value.int .i64 x.f1) from rfl); have hb0 := (blk_cell hbx5 0).trans (show _ = some (Value.int .i64 x.f0) from rfl); have hq2 := hcr5.c2; have hqa : ∀ o : Obj, (w5.alloc o).cell? ⟨g, 2, none⟩ = _ := fun o => (hcr5.alloc o).c2; have HUN := Lib.hid H3.out.un; have HUW := Lib.hid H3.out.uw; have HTW := Lib.hid H3.out.tw; have HC5 := Lib.hid hcr5; have HO5 := Lib.hid hput; have HT5 := Lib.hid htr5; clear hcr hcr5 hput htr5 htr4 hbx4 hbx5 hus4 hfrm ho5 hg5))
      go_roundw
      case rel => exact ⟨i + 1, by omega, by first | rfl | go_num, _, _, _, Lib.hid (lp_done HC5.out HO5.out HUN.out HUW.out HT5.out HTW.out HI'.out HRS.out HK1.out)⟩
      case measure => simp [intOf]; omega
   ·have hin : i = n := by omega
    subst hin
    have p1 : ((i : Int) < (i : Int)) = False := eq_false (by omega)
    have hres := HL.out.res
    rw [List.drop_eq_nil_of_le (by omega)] at hres
    have hV := HV1.out (by rw [← hres]; exact fun h => by cases h)
    have HV := Lib.hid hV
    have htr := HL.out.tre
    have ht0 := (blk_cell htr 0).trans (show _ = some (Value.slice AN nn cN) from rfl)
    clear hres hV htr
    go_wp2
    go_loopw [87] (fun t wr2 => ∃ k : Nat, k ≤ nn ∧ t = .int .i64 k ∧ goodAll N D k = true ∧ Hid (Lp w wr2 B mb tb ab g u i nn (.slice AN nn cN) (.slice AD i cD) D R i s f vO)) (fun t wr2 => nn - (intOf t).toNat)
    case atStart => exact ⟨0, Nat.zero_le _, rfl, rfl, HL⟩
    case round =>
     clear HL ht0
     obtain ⟨k, hk, rfl, hgd, HK⟩ := hrel
     have htr := HK.out.tre
     by_cases hkn : k < nn
     ·have hC := Kd.C_below HN.out HK.out.cr.bel
      obtain ⟨ad, hA, hre⟩ := Kd.at_string hC (k : Int) (by omega) (by omega)
      subst hA
      have hre := hre
      obtain ⟨S, hS⟩ : ∃ S : ByteArray, N.getD k ⟨#[]⟩ = S := ⟨_, rfl⟩
      rw [show rdOf ByteArray.empty N (k : Int) = S from by rw [← hS]; unfold rdOf; rw [Int.toNat_natCast]; rfl, Int.toNat_natCast] at hre
      have hkl : k < N.length := by omega
      have hSs : S.size ≤ 4294967280 := HNS.out S (by rw [← hS, List.getD_eq_getElem?_getD, List.getElem?_eq_getElem hkl]; exact List.getElem_mem hkl)
      obtain ⟨r2, hr2⟩ : ∃ r2, (if S.data.toList = [] then false else nameEndP S.data.toList 0 == (S.size : Int)) = r2 := ⟨_, rfl⟩
      have hNa : ∀ W, Calls Tryz.prog 48 #[.string S] W fun e w' => e = .returned (.bool r2) ∧ Below W.heap.size W w' := fun W => chars_Name.calls S _ W (by rw [name_f S (by omega), hr2])
      obtain ⟨r1, hr1⟩ : ∃ r1, decide ((k : Int) ∈ D.map (·.f1)) = r1 := ⟨_, rfl⟩
      have hus := HK.out.us
      rw [List.take_of_length_le (show D.length ≤ i by omega)] at hus
      obtain ⟨vt, ps, hlook, hvt⟩ := World.ownsMap.lookup hus KI Tryz.underlying80 (Tryz.zeroValue4 _) (plainElem_bool Tryz.underlying4 false) (keyI (k : Int) (by omega) (by omega))
      obtain ⟨bt, rfl, hbt⟩ := plain_bool_inv hvt
      have hbt2 := (at_keysI (k : Int) false _ (D.map (·.f1)) rfl).symm.trans hbt
      have hbr : bt = r1 := by
       by_cases c : (k : Int) ∈ D.map (·.f1)
       ·rw [if_pos c] at hbt2
        rw [← hr1, decide_eq_true c]; exact lit_inj hbt2
       ·rw [if_neg c] at hbt2
        rw [← hr1, decide_eq_false c]; exact lit_inj hbt2
      subst hbr
      have ht0 := (blk_cell htr 0).trans (show _ = some (Value.slice (some ad) nn cN) from rfl)
      have q0 : ((0 : Int) ≤ (k : Int)) = True := eq_true (by omega)
      have q1 : ((k : Int) < (nn : Int)) = True := eq_true (by omega)
      have e1 : IntKind.i64.wrap ((k : Int) + 1) = ((k + 1 : Nat) : Int) := zz15
      have HNA := Lib.hid hNa
      have HKN := Lib.hid hkn
      have HGD := Lib.hid hgd
      have HKL := Lib.hid hkl
      have HR1 := Lib.hid hr1
      have HR2 := Lib.hid hr2
      have HS := Lib.hid hS
      clear hC htr hSs hr2 hNa hr1 hus hvt hbt hbt2 hgd hkl hS
      cases bt with
      | false =>
       have hV0 : V = 1 := by rw [HV.out, if_neg (goodAll_bad HKL.out (by rw [goodN_of HS.out HR1.out HR2.out rfl]; rfl))]
       have HVV := Lib.hid hV0
       have HBL := Lib.hid HK.out.cr.bel
       clear hV0
       go_wp2
       first | go_ret | go_ret2 | go_ret3
       exact ⟨congrArg (fun z => Ending.returned (Value.int .i64 z)) HVV.out.symm, HBL.out⟩
      | true =>
      cases r2 with
      | false =>
       have hV0 : V = 1 := by rw [HV.out, if_neg (goodAll_bad HKL.out (by rw [goodN_of HS.out HR1.out HR2.out rfl]; rfl))]
       have HVV := Lib.hid hV0
       have HPB := Lib.hid (show ∀ W : World, Below w.heap.size w W → True from fun _ _ => trivial)
       clear hV0
       go_wp2_with (go_at_call 48; refine (HNA.out _).mono ?_; rintro e w2 ⟨rfl, hb2⟩; have H2 := Lib.hid (HK.out.below hb2); have ht2 := (blk_cell H2.out.tre 0).trans (show _ = some (Value.slice (some ad) nn cN) from rfl); have hpp := HPB.out w2 H2.out.cr.bel; clear hb2)
       first | go_ret | go_ret2 | go_ret3
       exact ⟨congrArg (fun z => Ending.returned (Value.int .i64 z)) HVV.out.symm, H2.out.cr.bel⟩
      | true =>
      by_cases k0 : k = 0
      ·have HGS := Lib.hid (goodAll_step HGD.out (by rw [goodN_of HS.out HR1.out HR2.out rfl, decide_eq_true k0]; rfl))
       have q2 : ((0 : Int) < (k : Int)) = False := eq_false (by omega)
       have q5 : decide ((0 : Int) < (k : Int)) = false := decide_eq_false (by omega)
       have q6 : (0 < k) = False := eq_false (by omega)
       have HPB := Lib.hid (show ∀ W : World, Below w.heap.size w W → True from fun _ _ => trivial)
       clear k0
       go_wp2_with (go_at_call 48; refine (HNA.out _).mono ?_; rintro e w2 ⟨rfl, hb2⟩; have H2 := Lib.hid (HK.out.below hb2); have ht2 := (blk_cell H2.out.tre 0).trans (show _ = some (Value.slice (some ad) nn cN) from rfl); have hpp := HPB.out w2 H2.out.cr.bel; clear hb2)
       go_roundw
       case rel => exact ⟨k + 1, by omega, by first | rfl | go_num, HGS.out, H2⟩
       case measure => simp [intOf]; omega
      ·have q2 : ((0 : Int) < (k : Int)) = True := eq_true (by omega)
       have q6 : (0 < k) = True := eq_true (by omega)
       have e2 : IntKind.i64.wrap ((k : Int) - 1) = ((k - 1 : Nat) : Int) := zz15
       have q3 : ((0 : Int) ≤ ((k - 1 : Nat) : Int)) = True := eq_true (by omega)
       have q4 : (((k - 1 : Nat) : Int) < (nn : Int)) = True := eq_true (by omega)
       obtain ⟨T, hT⟩ : ∃ T : ByteArray, N.getD (k - 1) ⟨#[]⟩ = T := ⟨_, rfl⟩
       have hpb : ∀ W, Below w.heap.size w W → W.cell? (ad.add (k - 1)) = some (.string T) := by
        intro W hW
        obtain ⟨ad2, hA2, hre2⟩ := Kd.at_string (Kd.C_below HN.out hW) ((k - 1 : Nat) : Int) (by omega) (by omega)
        injection hA2 with hA2
        subst hA2
        rw [show rdOf ByteArray.empty N ((k - 1 : Nat) : Int) = T from by rw [← hT]; unfold rdOf; rw [Int.toNat_natCast]; rfl, Int.toNat_natCast] at hre2
        exact hre2
       have HPB := Lib.hid hpb
       obtain ⟨r3, hr3⟩ : ∃ r3, Op.bytesLess T.toList S.toList = r3 := ⟨_, rfl⟩
       have h3 : (decide (k = 0) || decide ((N.getD (k - 1) ⟨#[]⟩).data.toList < S.data.toList)) = r3 := by
        rw [decide_eq_false k0, Bool.false_or, hT, ← hr3, Go.Proofs.bytesLess_eq, Lib.toList_data, Lib.toList_data]
       have H3 := Lib.hid h3
       clear hpb h3 hT k0
       cases r3 with
       | false =>
        have hV0 : V = 1 := by rw [HV.out, if_neg (goodAll_bad HKL.out (by rw [goodN_of HS.out HR1.out HR2.out H3.out]; rfl))]
        have HVV := Lib.hid hV0
        clear hV0
        go_wp2_with (go_at_call 48; refine (HNA.out _).mono ?_; rintro e w2 ⟨rfl, hb2⟩; have H2 := Lib.hid (HK.out.below hb2); have ht2 := (blk_cell H2.out.tre 0).trans (show _ = some (Value.slice (some ad) nn cN) from rfl); have hpp := HPB.out w2 H2.out.cr.bel; clear hb2)
        first | go_ret | go_ret2 | go_ret3
        exact ⟨congrArg (fun z => Ending.returned (Value.int .i64 z)) HVV.out.symm, H2.out.cr.bel⟩
       | true =>
        have HGS := Lib.hid (goodAll_step HGD.out (by rw [goodN_of HS.out HR1.out HR2.out H3.out]; rfl))
        go_wp2_with (go_at_call 48; refine (HNA.out _).mono ?_; rintro e w2 ⟨rfl, hb2⟩; have H2 := Lib.hid (HK.out.below hb2); have ht2 := (blk_cell H2.out.tre 0).trans (show _ = some (Value.slice (some ad) nn cN) from rfl); have hpp := HPB.out w2 H2.out.cr.bel; clear hb2)
        go_roundw
        case rel => exact ⟨k + 1, by omega, by first | rfl | go_num, HGS.out, H2⟩
        case measure => simp [intOf]; omega
     ·have hkn2 : k = nn := by omega
      subst hkn2
      have hall : namesC N D = true := by
       have := hgd
       rw [← hnn] at this
       exact this
      have hV0 : V = 0 := by rw [HV.out, if_pos hall]
      have HVV := Lib.hid hV0
      have p1 : ((k : Int) < (k : Int)) = False := eq_false (by omega)
      have HBL := Lib.hid HK.out.cr.bel
      clear htr hV0 hall hgd
      go_wp2
      first | go_ret | go_ret2 | go_ret3
      exact ⟨congrArg (fun z => Ending.returned (Value.int .i64 z)) HVV.out.symm, HBL.out⟩
set_option maxHeartbeats 4000000 in
set_option maxRecDepth 100000 in
theorem check_out {w : World} {AN AD : Option Addr} {cN cD n nn : Nat} (h : n = 0 ∨ 5000 < n ∨ 1000 < nn) :
 Calls Tryz.prog 19 #[.agg #[.slice AN nn cN, .slice AD n cD]] w fun e w' => e = .returned (.int .i64 1) ∧ Below w.heap.size w w' := by
 have HB := Lib.hid (below_alloc (Below.refl w.heap.size w) (.cells #[.slice AN nn cN, .slice AD n cD] 27))
 by_cases h0 : n = 0
 ·subst h0
  go_enter Tryz.func19, Tryz.ntmps19
  go_wp2
  first | go_ret | go_ret2 | go_ret3
  exact ⟨rfl, HB.out⟩
 ·have p0 : ((n : Int) == 0) = false := beqI_f (by omega)
  by_cases h1 : 5000 < n
  ·have p1 : ((5000 : Int) < (n : Int)) = True := eq_true (by omega)
   go_enter Tryz.func19, Tryz.ntmps19
   go_wp2
   first | go_ret | go_ret2 | go_ret3
   exact ⟨rfl, HB.out⟩
  ·have p1 : ((5000 : Int) < (n : Int)) = False := eq_false (by omega)
   have p2 : ((1000 : Int) < (nn : Int)) = True := eq_true (by omega)
   clear h
   go_enter Tryz.func19, Tryz.ntmps19
   go_wp2
   first | go_ret | go_ret2 | go_ret3
   exact ⟨rfl, HB.out⟩
theorem check_all {w : World} {AN AD : Option Addr} {cN cD : Nat} {N : List ByteArray} {D : List Nod} (hN : Kd.C Kd.string w AN N.length N) (hD : Kd.C k41 w AD D.length D) (hDs : ∀ x, x ∈ D → x.f3.size ≤ 4294967280) (hNs : ∀ x, x ∈ N → x.size ≤ 4294967280) :
 Calls Tryz.prog 19 #[.agg #[.slice AN N.length cN, .slice AD D.length cD]] w fun e w' => e = .returned (.int .i64 (checkV N D)) ∧ Below w.heap.size w w' := by
 unfold checkV
 by_cases h : D.length = 0 ∨ 5000 < D.length ∨ 1000 < N.length
 ·rw [if_pos h]; exact check_out h
 ·rw [if_neg h]
  refine check_c hN hD (by omega) (by omega) (by omega) hDs hNs _ ?_ ?_
  ·intro e; rw [if_pos (by rw [e]; rfl)]
  ·intro e
   rw [if_neg]
   intro c
   cases hh : nodesC N.length D 0 (zeroC D.length) with
   | none => exact e hh
   | some z => rw [hh] at c; cases c
end Go.Proofs.YtlhhhlimjajnlaaGreat.X
end
section
set_option linter.unusedVariables false
set_option linter.unusedSimpArgs false
namespace Go.Proofs.YtlhhhlimjajnlaaGreat.X
open Go.RowKit Go.Maps Go.Proofs.YtlhhhlimjajnlaaGreat Go.Proofs.YtlhhhlimjajnlaaGreat.Q Go.Proofs.YtlhhhlimjajnlaaGreatW.PrintWords Go.Proofs.YtlhhhlimjajnlaaGreatW.PrintLast Go.Proofs.YtlhhhlimjajnlaaGreatW.PrintMore
attribute [local go_sem] max2_int min2_int max_two min_two   
theorem R_stayS {w w1 : World} {base : Nat} {v : Value} {l : List Int} (h : Kd.R (Kd.int .i64) 3 w base (fun _ => True) v l) (hs : StayS w w1) : Kd.R (Kd.int .i64) 3 w1 base (fun _ => True) v l :=
 Kd.R_mono (Kd.R_move (Kd.R_bound h) (fun k hk => by
  obtain ⟨_, _, _, q, hq, cells, hc⟩ := hk
  have e : q = 3 := by
   rcases List.mem_cons.1 hq with e | e
   ·exact e
   ·cases e
  subst e
  rw [hs _ _ _ hc (by decide) (by decide), hc])) (fun _ _ => trivial)
def StayT (w w' : World) : Prop := ∀ (q t : Nat) (x : Array Value), w.heap[q]? = some (.cells x t (0, 0)) → t ≠ 65 → t ≠ 5 → t ≠ 4 → t ≠ 47 → w'.heap[q]? = some (.cells x t (0, 0))
theorem StayT.refl (w : World) : StayT w w := fun _ _ _ h _ _ _ _ => h
theorem StayT.trans {a b c : World} (h : StayT a b) (h' : StayT b c) : StayT a c := fun q t x hq h1 h2 h3 h4 => h' q t x (h q t x hq h1 h2 h3 h4) h1 h2 h3 h4
theorem stayT_of {a b : World} (h : StayS a b) : StayT a b := fun q t x hq h1 h2 _ _ => h q t x hq h1 h2
theorem StayT.of_below {w w1 : World} (hb : Below w.heap.size w w1) : StayT w w1 := fun q t x hq _ _ _ _ => blk_below hq hb
theorem StayT.set {w : World} {g t0 : Nat} {y : Array Value} (hg : w.heap[g]? = some (.cells y t0 (0, 0))) (ht : t0 = 4 ∨ t0 = 47) (j : Nat) (v : Value) : StayT w (w.setCell ⟨g, j, none⟩ v) := fun q t x hq h1 h2 h3 h4 => by
 refine blk_far hq (fun e => ?_) _
 have e : q = g := e
 rw [e, hg] at hq
 injection hq with hq
 injection hq with _ hq
 rcases ht with ht | ht
 ·exact h3 (hq.symm.trans ht)
 ·exact h4 (hq.symm.trans ht)
theorem isB_set {W : World} {B b g t : Nat} {x : Array Value} {out : List UInt8} (h : IsB B b out W) (hg : W.heap[g]? = some (.cells x t (0, 0))) (h1 : t ≠ 65) (h2 : t ≠ 5) (j : Nat) (v : Value) : IsB B b out (W.setCell ⟨g, j, none⟩ v) := by
 have key : ∀ {q : Value} {bs : List Value}, Lib.BuilderAt 65 5 B b q bs W → Lib.BuilderAt 65 5 B b q bs (W.setCell ⟨g, j, none⟩ v) := by
  intro q bs h
  obtain ⟨a1, u, a2, a3, a4⟩ := h
  refine ⟨a1, u, ?_, ⟨a3.1, ?_⟩, a4⟩
  ·exact blk_far a2 (fun e => h1 (by
    have e : b = g := e
    rw [e, hg] at a2
    injection a2 with a2
    injection a2 with _ a2)) _
  ·rcases a3.2 with h5 | ⟨k, cap, cur, e1, e2, e3, e4⟩
   ·exact .inl h5
   ·refine .inr ⟨k, cap, cur, e1, e2, ?_, e4⟩
    exact blk_far e3 (fun e => h2 (by
     have e : k = g := e
     rw [e, hg] at e3
     injection e3 with e3
     injection e3 with _ e3)) _
 rcases h with h | h
 ·exact .inl (key h)
 ·exact .inr (key h)
structure Ww (w0 W : World) (b pb gb ob rb tr : Nat) (vN vD vO : Value) (s : WS) : Prop where
 bd : IsB w0.heap.size b s.out W
 pc : W.heap[pb]? = some (.cells #[.func (.func 37) #[] #[.pointer (some ⟨b, 0, none⟩)]] 70 (0, 0))
 gc : W.heap[gb]? = some (.cells #[.bool s.bg] 4 (0, 0))
 oc : W.heap[ob]? = some (.cells #[vO] 47 (0, 0))
 rc : W.heap[rb]? = some (.cells #[.func (.func 39) #[] #[.pointer (some ⟨gb, 0, none⟩), .pointer (some ⟨pb, 0, none⟩)]] 1 (0, 0))
 tc : W.heap[tr]? = some (.cells #[vN, vD] 27 (0, 0))
 ro : Kd.R (Kd.int .i64) 3 W w0.heap.size (fun _ => True) vO s.op
 ggb : w0.heap.size ≤ gb
 gob : w0.heap.size ≤ ob
 bel : Below w0.heap.size w0 W
section
variable {w0 W W1 : World} {b pb gb ob rb tr : Nat} {vN vD vO : Value} {s : WS}
theorem Ww.stay (h : Ww w0 W b pb gb ob rb tr vN vD vO s) {out : List UInt8} (hb : IsB w0.heap.size b out W1) (hB : Below w0.heap.size W W1) (hs : StayS W W1) : Ww w0 W1 b pb gb ob rb tr vN vD vO { s with out := out } :=
 ⟨hb, hs _ _ _ h.pc (by decide) (by decide), hs _ _ _ h.gc (by decide) (by decide), hs _ _ _ h.oc (by decide) (by decide), hs _ _ _ h.rc (by decide) (by decide), hs _ _ _ h.tc (by decide) (by decide), R_stayS h.ro hs, h.ggb, h.gob, h.bel.trans hB⟩
theorem Ww.below (h : Ww w0 W b pb gb ob rb tr vN vD vO s) (hb : Below W.heap.size W W1) : Ww w0 W1 b pb gb ob rb tr vN vD vO s :=
 ⟨isB_below h.bd hb, blk_below h.pc hb, blk_below h.gc hb, blk_below h.oc hb, blk_below h.rc hb, blk_below h.tc hb, Kd.R_below h.ro hb, h.ggb, h.gob, below_step h.bel hb⟩
theorem Ww.begun (h : Ww w0 W b pb gb ob rb tr vN vD vO s) (x : Bool) : Ww w0 (W.setCell ⟨gb, 0, none⟩ (.bool x)) b pb gb ob rb tr vN vD vO { s with bg := x } := by
 have ne : ∀ {q t : Nat} {y : Array Value}, W.heap[q]? = some (.cells y t (0, 0)) → t ≠ 4 → q ≠ gb := fun {q t y} hq ht e => by
  have h2 := h.gc
  rw [← e, hq] at h2
  injection h2 with h2
  injection h2 with _ h2
  exact ht h2
 exact ⟨isB_set h.bd h.gc (by decide) (by decide) _ _, blk_far h.pc (ne h.pc (by decide)) _, blk_set h.gc 0 _, blk_far h.oc (ne h.oc (by decide)) _, blk_far h.rc (ne h.rc (by decide)) _, blk_far h.tc (ne h.tc (by decide)) _, R_away_set h.ro rfl (Kd.R_ne h.ro h.gc (by decide)) 0 _, h.ggb, h.gob, h.bel.setCell h.ggb _⟩
theorem Ww.opens (h : Ww w0 W b pb gb ob rb tr vN vD vO s) {u : Value} {l : List Int} (hr : Kd.R (Kd.int .i64) 3 W w0.heap.size (fun _ => True) u l) : Ww w0 (W.setCell ⟨ob, 0, none⟩ u) b pb gb ob rb tr vN vD u { s with op := l } := by
 have ne : ∀ {q t : Nat} {y : Array Value}, W.heap[q]? = some (.cells y t (0, 0)) → t ≠ 47 → q ≠ ob := fun {q t y} hq ht e => by
  have h2 := h.oc
  rw [← e, hq] at h2
  injection h2 with h2
  injection h2 with _ h2
  exact ht h2
 exact ⟨isB_set h.bd h.oc (by decide) (by decide) _ _, blk_far h.pc (ne h.pc (by decide)) _, blk_far h.gc (ne h.gc (by decide)) _, blk_set h.oc 0 _, blk_far h.rc (ne h.rc (by decide)) _, blk_far h.tc (ne h.tc (by decide)) _, R_away_set hr rfl (Kd.R_ne hr h.oc (by decide)) 0 _, h.ggb, h.gob, h.bel.setCell h.gob _⟩
theorem Ww.ready (h : Ww w0 W b pb gb ob rb tr vN vD vO s) {V : World} (hb : IsB w0.heap.size b (if s.bg = true then s.out ++ [62] else s.out) V) (hB : Below w0.heap.size W V) (hs : StayS W V) : Ww w0 (V.setCell ⟨gb, 0, none⟩ (.bool false)) b pb gb ob rb tr vN vD vO (readyW s) :=
 (h.stay hb hB hs).begun false
end
def okN (N : List ByteArray) (D : List Nod) : Prop := (∀ x, x ∈ N → x.size ≤ 1000000000) ∧ (∀ x, x ∈ D → x.f3.size ≤ 1000000000) ∧ (∀ x, x ∈ D → x.f0 ≠ 3 → 0 ≤ x.f1 ∧ x.f1 < N.length)
def okO (D : List Nod) (s : WS) : Prop := ∀ j, j ∈ s.op → 0 ≤ j ∧ j < D.length ∧ (D.getD j.toNat xz).f0 ≠ 3
theorem getD_memN {N : List ByteArray} {k : Nat} (h : k < N.length) : N.getD k ⟨#[]⟩ ∈ N := by
 rw [List.getD_eq_getElem?_getD, List.getElem?_eq_getElem h]; exact List.getElem_mem h
theorem getD_memD {D : List Nod} {k : Nat} (h : k < D.length) : D.getD k xz ∈ D := by
 rw [List.getD_eq_getElem?_getD, List.getElem?_eq_getElem h]; exact List.getElem_mem h
theorem nameW_le {N : List ByteArray} {D : List Nod} (h : okN N D) (p : Int) (h0 : 0 ≤ p) (h1 : p < D.length) (h2 : (D.getD p.toNat xz).f0 ≠ 3) : (nameW N D p).length ≤ 1000000000 := by
 have hp : p.toNat < D.length := by omega
 have hn := h.2.2 _ (getD_memD hp) h2
 have hk : ((D.getD p.toNat xz).f1).toNat < N.length := by omega
 have := h.1 _ (getD_memN hk)
 unfold nameW
 rw [Lib.size_eq] at this
 exact this
theorem readyW_len (s : WS) : (readyW s).out.length ≤ s.out.length + 1 := by
 unfold readyW
 split <;> simp
theorem popW_len {N : List ByteArray} {D : List Nod} (h : okN N D) {s : WS} (ho : okO D s) (hne : s.op ≠ []) : (popW N D s).out.length + 1100000000 * (popW N D s).op.length ≤ s.out.length + 1100000000 * s.op.length := by
 have hl := readyW_len s
 have hm : s.op.getLastD 0 ∈ s.op := by
  rw [List.getLastD_eq_getLast?, List.getLast?_eq_some_getLast hne]; exact List.getLast_mem hne
 obtain ⟨h0, h1, h2⟩ := ho _ hm
 have hn := nameW_le h _ h0 h1 h2
 have hlen : 0 < s.op.length := List.length_pos_iff.2 hne
 unfold popW
 simp only [List.length_append, List.length_cons, List.length_nil, List.length_dropLast]
 have e : (readyW s).op = s.op := rfl
 omega
theorem popW_ok {N : List ByteArray} {D : List Nod} {s : WS} (ho : okO D s) : okO D (popW N D s) := fun j hj => ho j (List.dropLast_subset _ hj)
theorem putw_c {w0 W : World} {b pb gb ob rb tr p c : Nat} {vN vD vO : Value} {s : WS} {l : List ByteArray} (h : Ww w0 W b pb gb ob rb tr vN vD vO s) (hp : W.heap[p]? = some (.cells (scells l) 9 (0, 0))) (hl : l.length ≤ 1000) (hlen : s.out.length + (putL l).length ≤ 140737488355328) :
 Calls Tryz.prog 37 #[.slice (some ⟨p, 0, none⟩) l.length c, .pointer (some ⟨b, 0, none⟩)] W fun e w' => e = .returned (.tuple #[]) ∧ Ww w0 w' b pb gb ob rb tr vN vD vO { s with out := s.out ++ putL l } ∧ StayT W w' := by
 refine (put_w h.bd h.bel.size hp hl ?_).mono ?_
 ·intro k hk
  have : (putL (l.take k)).length ≤ (putL l).length := by
   unfold putL
   conv => rhs; rw [← List.take_append_drop k l, List.map_append, List.flatten_append, List.length_append]
   omega
  omega
 ·rintro e w1 ⟨rfl, h1, h2, h3⟩
  exact ⟨rfl, h.stay h1 h2 h3, stayT_of h3⟩
theorem ready_c {w0 W : World} {b pb gb ob rb tr : Nat} {vN vD vO : Value} {s : WS} (h : Ww w0 W b pb gb ob rb tr vN vD vO s) (hl : s.out.length ≤ 140737488355000) :
 Calls Tryz.prog 39 #[.pointer (some ⟨gb, 0, none⟩), .pointer (some ⟨pb, 0, none⟩)] W fun e w' => e = .returned (.tuple #[]) ∧ Ww w0 w' b pb gb ob rb tr vN vD vO (readyW s) ∧ StayT W w' := by
 refine (ready_w h.bd h.bel.size h.ggb h.gc h.pc hl).mono ?_
 rintro e w1 ⟨rfl, V, rfl, h1, h2, h3⟩
 exact ⟨rfl, h.ready h1 h2 h3, (stayT_of h3).trans (StayT.set (h3 _ _ _ h.gc (by decide) (by decide)) (.inl rfl) 0 _)⟩
def openN (ob : Nat) (w : World) : Nat := match w.cell? ⟨ob, 0, none⟩ with
 | some (.slice _ n _) => n
 | _ => 0
theorem Ww.openN_ {w0 W : World} {b pb gb ob rb tr : Nat} {vN vD vO : Value} {s : WS} (h : Ww w0 W b pb gb ob rb tr vN vD vO s) : openN ob W = s.op.length := by
 obtain ⟨A, c, rfl, -, -⟩ := Kd.R_reads h.ro
 unfold openN
 rw [(blk_cell h.oc 0).trans (show _ = some (Value.slice A s.op.length c) from rfl)]
theorem closeW_stop {N : List ByteArray} {D : List Nod} {p : Int} {s : WS} (h : s.op = [] ∨ s.op.getLastD 0 = p) : ∀ k, closeW N D p k s = s
 | 0 => rfl
 | k + 1 => by unfold closeW; rw [if_pos h]
theorem popW_op (N : List ByteArray) (D : List Nod) (s : WS) : (popW N D s).op = s.op.dropLast := rfl
theorem seven {w0 W : World} {b pb gb ob rb tr cN cD n nn L M c : Nat} {an ae ad : Addr} {N : List ByteArray} {D : List Nod} {s : WS} {pre : List Int} {x m : Int} {S : ByteArray} (hN : Kd.C Kd.string w0 (some an) nn N) (hD : Kd.C k41 w0 (some ae) n D) (h : Ww w0 W b pb gb ob rb tr (.slice (some an) nn cN) (.slice (some ae) n cD) (.slice (some ad) L c) s)
 (ho : s.op = pre ++ [x]) (hM : pre.length = M) (x0 : 0 ≤ x) (x1 : x < n) (hm : (D.getD x.toNat xz).f1 = m) (m0 : 0 ≤ m) (m1 : m < nn) (hS : N.getD m.toNat ⟨#[]⟩ = S) :
 W.cell? ⟨pb, 0, none⟩ = some (.func (.func 37) #[] #[.pointer (some ⟨b, 0, none⟩)]) ∧ W.cell? ⟨tr, 0, none⟩ = some (.slice (some an) nn cN) ∧ W.cell? ⟨tr, 1, none⟩ = some (.slice (some ae) n cD) ∧ W.cell? ⟨ob, 0, none⟩ = some (.slice (some ad) L c) ∧ W.cell? (ad.add M) = some (.int .i64 x) ∧ W.cell? ⟨(ae.add (x.toNat * 4)).block, (ae.add (x.toNat * 4)).off + 1, none⟩ = some (.int .i64 m) ∧ W.cell? (an.add m.toNat) = some (.string S) := by
 refine ⟨(blk_cell h.pc 0).trans rfl, (blk_cell h.tc 0).trans rfl, (blk_cell h.tc 1).trans rfl, (blk_cell h.oc 0).trans rfl, ?_, ?_, ?_⟩
 ·obtain ⟨A, c', hv, -, hC⟩ := Kd.R_reads h.ro
  injection hv with hA
  subst hA
  have hl : s.op.length = M + 1 := by rw [ho]; simp [hM]
  obtain ⟨ad1, hA1, hcell⟩ := Kd.at_int hC (M : Int) (by omega) (by omega)
  obtain rfl : ad = ad1 := Option.some.inj hA1
  have hx : rd s.op (M : Int) = x := by
   unfold rd
   rw [Int.toNat_natCast, ho, List.getD_eq_getElem?_getD, ← hM]; simp
  rw [hx, Int.toNat_natCast] at hcell
  exact hcell
 ·obtain ⟨ae1, hAE, -, r1, -, -⟩ := at_T41 (Kd.C_below hD h.bel) x x0 x1
  obtain rfl : ae = ae1 := Option.some.inj hAE
  have hrd : rd_T41 D x = D.getD x.toNat xz := rfl
  rw [hrd, hm] at r1
  exact r1
 ·obtain ⟨an1, hAN, hre⟩ := Kd.at_string (Kd.C_below hN h.bel) m m0 m1
  obtain rfl : an = an1 := Option.some.inj hAN
  have hrs : rdOf ByteArray.empty N m = S := hS
  rw [hrs] at hre
  exact hre
set_option maxHeartbeats 8000000 in
set_option maxRecDepth 100000 in
theorem close_c {w0 w : World} {b pb gb ob rb tr cN cD : Nat} {AN AD : Option Addr} {vO : Value} {N : List ByteArray} {D : List Nod} {s : WS} (hN : Kd.C Kd.string w0 AN N.length N) (hD : Kd.C k41 w0 AD D.length D) (h : Ww w0 w b pb gb ob rb tr (.slice AN N.length cN) (.slice AD D.length cD) vO s)
 (hok : okN N D) (ho : okO D s) (hlen : s.out.length + 1100000000 * s.op.length ≤ 100000000000000) (hlo : s.op.length ≤ 1000000) (hl1 : N.length ≤ 1000000) (hl2 : D.length ≤ 1000000) (p : Int) :
 Calls Tryz.prog 40 #[.int .i64 p, .pointer (some ⟨ob, 0, none⟩), .pointer (some ⟨rb, 0, none⟩), .pointer (some ⟨pb, 0, none⟩), .pointer (some ⟨tr, 0, none⟩)] w fun e w' => e = .returned (.tuple #[]) ∧ (∃ vO', Ww w0 w' b pb gb ob rb tr (.slice AN N.length cN) (.slice AD D.length cD) vO' (closeW N D p s.op.length s)) ∧ StayT w w' := by
 obtain ⟨n, hn⟩ : ∃ n, D.length = n := ⟨_, rfl⟩
 obtain ⟨nn, hnn⟩ : ∃ nn, N.length = nn := ⟨_, rfl⟩
 obtain ⟨R, hR⟩ : ∃ R, closeW N D p s.op.length s = R := ⟨_, rfl⟩
 have HR := Lib.hid hR
 have HOK := Lib.hid hok
 have HO := Lib.hid ho
 have HL := Lib.hid hlen
 have HLO := Lib.hid hlo
 have HNN := Lib.hid hnn
 have HDN := Lib.hid hn
 rw [hR]
 rw [hnn] at hN h hl1 ⊢
 rw [hn] at hD h hl2 ⊢
 have HN := Lib.hid hN
 have HD := Lib.hid hD
 have H := Lib.hid h
 have HL1 := Lib.hid hl1
 have HL2 := Lib.hid hl2
 clear hR hok ho hlen hlo hN hD h hnn hn hl1 hl2
 go_enter Tryz.func40, Tryz.ntmps40
 go_wp2
 go_loopw [18] (fun t wr => ∃ s' vO', Hid (Ww w0 wr b pb gb ob rb tr (.slice AN nn cN) (.slice AD n cD) vO' s') ∧ Hid (closeW N D p s'.op.length s' = R) ∧ Hid (okO D s') ∧ Hid (s'.out.length + 1100000000 * s'.op.length ≤ 100000000000000) ∧ Hid (s'.op.length ≤ 1000000) ∧ Hid (StayT w wr)) (fun t wr => openN ob wr)
 case atStart => exact ⟨_, _, H, HR, HO, HL, HLO, Lib.hid (StayT.refl _)⟩
 case round =>
  clear H HR HO HL HLO
  obtain ⟨s', vO', H, HR, HO, HL, HLO, HT⟩ := hrel
  obtain ⟨A, c, hv, hle, hC⟩ := Kd.R_reads H.out.ro
  subst hv
  have hmeas := Lib.hid H.out.openN_
  have hop := H.out.oc
  have hoc := (blk_cell hop 0).trans (show _ = some (Value.slice A s'.op.length c) from rfl)
  rcases List.eq_nil_or_concat s'.op with ho | ⟨pre, x, ho⟩
  ·have HS := Lib.hid (show s' = R by rw [← HR.out, closeW_stop (.inl ho)])
   rw [ho] at hoc
   simp only [List.length_nil] at hoc
   have HC := Lib.hid hoc
   clear hop hle hC ho
   have p0 : ((0 : Int) < ((0 : Nat) : Int)) = False := eq_false (by omega)
   go_wp2
   first | go_end0 | go_ret | ((try simp only [Exit.inBlock, Exit.then]); refine bodyPost_ret (results_none rfl _ _ _) rfl ?_)
   exact ⟨rfl, ⟨_, HS.out ▸ H.out⟩, HT.out⟩
  ·rw [List.concat_eq_append] at ho
   obtain ⟨L, hL⟩ : ∃ L, s'.op.length = L := ⟨_, rfl⟩
   have hpl : pre.length + 1 = L := by rw [← hL, ho]; simp
   obtain ⟨M, hM⟩ : ∃ M, pre.length = M := ⟨_, rfl⟩
   rw [hM] at hpl
   rw [hL] at hoc hle hC
   obtain ⟨ad, hA, hcell⟩ := Kd.at_int hC (M : Int) (by omega) (by omega)
   subst hA
   have hx : rd s'.op (M : Int) = x := by
    unfold rd
    rw [Int.toNat_natCast, ho, List.getD_eq_getElem?_getD, ← hM]; simp
   rw [hx, Int.toNat_natCast] at hcell
   have hlast : s'.op.getLastD 0 = x := by rw [ho]; simp
   have HLO2 := HLO.out
   have hLb : L ≤ 1000000 := by omega
   have p0 : ((0 : Int) < (L : Int)) = True := eq_true (by omega)
   have p0' : (0 < L) = True := eq_true (by omega)
   have e1 : IntKind.i64.wrap ((L : Int) - 1) = (M : Int) := zz15
   have p1 : ((0 : Int) ≤ (M : Int)) = True := eq_true (by omega)
   have p2 : ((M : Int) < (L : Int)) = True := eq_true (by omega)
   have p2' : (M < L) = True := eq_true (by omega)
   have p3 : ((M : Int) ≤ (c : Int)) = True := eq_true (by omega)
   have p3' : (M ≤ c) = True := eq_true (by omega)
   by_cases hxp : x = p
   ·have HS := Lib.hid (show s' = R by rw [← HR.out, closeW_stop (.inr (by rw [hlast, hxp]))])
    subst hxp
    have q0 : ((x : Int) != x) = false := by simp
    have HC := Lib.hid hoc
    clear hop hle hC ho HLO2
    go_wp2
    first | go_end0 | go_ret | ((try simp only [Exit.inBlock, Exit.then]); refine bodyPost_ret (results_none rfl _ _ _) rfl ?_)
    exact ⟨rfl, ⟨_, HS.out ▸ H.out⟩, HT.out⟩
   ·have q0 : ((x : Int) != p) = true := by simp [hxp]
    have hxm : x ∈ s'.op := by rw [ho]; simp
    obtain ⟨x0, x1, x2⟩ := HO.out x hxm
    rw [HDN.out] at x1
    have hpop : closeW N D p (popW N D s').op.length (popW N D s') = R := by
     rw [← HR.out]
     conv => rhs; rw [hL, ← hpl]; unfold closeW
     rw [if_neg (fun h => h.elim (fun h => by rw [h] at ho; simp at ho) (fun h => hxp (by rw [← hlast, h]))), popW_op, ho, List.dropLast_concat, hM]
    have hlp := popW_len HOK.out HO.out (by rw [ho]; simp)
    have HP := Lib.hid hpop
    have HLP := Lib.hid (Nat.le_trans hlp HL.out)
    have hrc := (blk_cell H.out.rc 0).trans (show _ = some (Value.func (.func 39) #[] #[.pointer (some ⟨gb, 0, none⟩), .pointer (some ⟨pb, 0, none⟩)]) from rfl)
    have hnm := HOK.out.2.2 _ (getD_memD (k := x.toNat) (by rw [HDN.out]; omega)) x2
    rw [HNN.out] at hnm
    have HX := Lib.hid (And.intro x0 (And.intro x1 (And.intro x2 hnm)))
    have HHL := Lib.hid (And.intro hL (And.intro hpl (And.intro hM (And.intro ho hlast))))
    clear hop hle hC hpop hlp hlast hxm hx x2 ho HLO2
    go_wp2_with (go_at_call 39; refine (ready_c H.out (by have := HL.out; omega)).mono ?_; rintro e w1 ⟨rfl, h1, ht1⟩; have H1 := Lib.hid h1; have HT1 := Lib.hid ht1; obtain ⟨A1, c1, hv1, hle1, hC1⟩ := Kd.R_reads h1.ro; (have hop1 : (readyW s').op = s'.op := rfl); rw [hop1, hL] at hle1 hC1; obtain ⟨ad1, hA1, hcell1⟩ := Kd.at_int hC1 (M : Int) (by omega) (by omega); (have hx1 : rd s'.op (M : Int) = x := by unfold rd; rw [Int.toNat_natCast, HHL.out.2.2.2.1, List.getD_eq_getElem?_getD, ← hM]; simp); rw [hx1, Int.toNat_natCast] at hcell1)
    obtain rfl : ad = ad1 := Option.some.inj hA1
    rw [hL] at h1
    have hof1 := blk_frozen h1.oc 0
    obtain ⟨ae, hAE, -, -, -, -⟩ := at_T41 HD.out x x0 x1
    obtain ⟨m, hm⟩ : ∃ m, (D.getD x.toNat xz).f1 = m := ⟨_, rfl⟩
    rw [hm] at hnm
    obtain ⟨an, hAN, -⟩ := Kd.at_string HN.out m hnm.1 hnm.2
    obtain ⟨S, hS⟩ : ∃ S, N.getD m.toNat ⟨#[]⟩ = S := ⟨_, rfl⟩
    subst hAE
    subst hAN
    have hsev : ∀ (W : World) (s2 : WS), Ww w0 W b pb gb ob rb tr (.slice (some an) nn cN) (.slice (some ae) n cD) (.slice (some ad) L c) s2 → s2.op = s'.op → _ := fun W s2 h h2 => seven HN.out HD.out h (h2.trans HHL.out.2.2.2.1) hM x0 x1 hm hnm.1 hnm.2 hS
    have HSEV := Lib.hid hsev
    obtain ⟨s1, s2, s3, s4, s5, s6, s7⟩ := HSEV.out w1 _ h1 rfl
    have HW1 := Lib.hid h1
    have p4 : ((0 : Int) ≤ x) = True := eq_true x0
    have p5 : (x < (n : Int)) = True := eq_true x1
    have p6 : ((0 : Int) ≤ m) = True := eq_true hnm.1
    have p7 : (m < (nn : Int)) = True := eq_true hnm.2
    have hNW : nameW N D x = S.data.toList := by unfold nameW; rw [show (D.getD x.toNat ⟨0, 0, 0, ⟨#[]⟩⟩).f1 = m from hm, hS]
    have hSl : (putL [(⟨#[60, 47]⟩ : ByteArray), S, ⟨#[62]⟩]) = [60, 47] ++ S.data.toList ++ [62] := by simp [putL]
    have hbd : (readyW s').out.length + (putL [(⟨#[60, 47]⟩ : ByteArray), S, ⟨#[62]⟩]).length ≤ 140737488355328 := by
     have h1 := nameW_le HOK.out x HX.out.1 (by rw [HDN.out]; exact HX.out.2.1) HX.out.2.2.1
     have h2 := readyW_len s'
     have h3 := HL.out
     rw [hNW] at h1
     rw [hSl]
     simp only [List.length_append, List.length_cons, List.length_nil]
     omega
    have HBD := Lib.hid hbd
    have HSL := Lib.hid hSl
    have HNW := Lib.hid hNW
    clear hbd hSl hNW hS hm hnm hcell hoc hrc h1 hop1 hx1 hC1 hcell1 hsev
    go_region_held3 (fun W => W.cell? ⟨pb, 0, none⟩ = some (.func (.func 37) #[] #[.pointer (some ⟨b, 0, none⟩)]) ∧ W.cell? ⟨tr, 0, none⟩ = some (.slice (some an) nn cN) ∧ W.cell? ⟨tr, 1, none⟩ = some (.slice (some ae) n cD) ∧ W.cell? ⟨ob, 0, none⟩ = some (.slice (some ad) L c) ∧ W.cell? (ad.add M) = some (.int .i64 x) ∧ W.cell? ⟨(ae.add (x.toNat * 4)).block, (ae.add (x.toNat * 4)).off + 1, none⟩ = some (.int .i64 m) ∧ W.cell? (an.add m.toNat) = some (.string S)) (first | exact ⟨by assumption, by assumption, by assumption, by assumption, by assumption, by assumption, by assumption⟩ | go_keep) ((go_at_call 37; refine (putw_c (l := [(⟨#[60, 47]⟩ : ByteArray), S, ⟨#[62]⟩]) (HW1.out.below (zz2)) (zz35) (by simp) HBD.out).mono ?_; rintro e w2 ⟨rfl, h2, ht2⟩; have H2 := Lib.hid h2; have HT2 := Lib.hid (HT.out.trans (HT1.out.trans ((StayT.of_below (zz2)).trans ht2))); clear h2 ht2; obtain ⟨v1, v2, v3, v4, v5, v6, v7⟩ := HSEV.out w2 _ H2.out rfl))
    have hof2 := blk_frozen H2.out.oc 0
    have HST := Lib.hid (show ({ ({ readyW s' with out := (readyW s').out ++ putL [(⟨#[60, 47]⟩ : ByteArray), S, ⟨#[62]⟩] } : WS) with op := s'.op.take M } : WS) = popW N D s' by
     unfold popW
     rw [HHL.out.2.2.2.2, HNW.out, HSL.out, List.dropLast_eq_take, HHL.out.1]
     have : L - 1 = M := by omega
     rw [this])
    have h3 := H2.out.opens (Kd.R_take H2.out.ro (m := M) (by show M ≤ s'.op.length; omega))
    have h3 := HST.out ▸ h3
    have H3 := Lib.hid h3
    clear h3
    go_wp2
    go_roundw
    case rel => exact ⟨_, _, H3, HP, Lib.hid (popW_ok HO.out), HLP, Lib.hid (by have h1 := HLO.out; rw [popW_op, List.length_dropLast]; omega), Lib.hid (HT2.out.trans (StayT.set H2.out.oc (.inr rfl) 0 _))⟩
    case measure =>
     rw [H3.out.openN_, hmeas.out, popW_op, List.length_dropLast, HHL.out.1]
     omega
end Go.Proofs.YtlhhhlimjajnlaaGreat.X
end
section
set_option linter.unusedVariables false
set_option linter.unusedSimpArgs false
namespace Go.Proofs.YtlhhhlimjajnlaaGreat.X
open Go.RowKit Go.Maps Go.Proofs.YtlhhhlimjajnlaaGreat Go.Proofs.YtlhhhlimjajnlaaGreat.Q Go.Proofs.YtlhhhlimjajnlaaGreatW.PrintWords Go.Proofs.YtlhhhlimjajnlaaGreatW.PrintLast Go.Proofs.YtlhhhlimjajnlaaGreatW.PrintMore
attribute [local go_sem] max2_int min2_int max_two min_two   
theorem nodesC_named (nn : Nat) : ∀ (l : List Nod) (i : Nat) (s : CS), nodesC nn l i s ≠ none → ∀ x, x ∈ l → namedP nn x = true
 | [], _, _, _, x, hx => by cases hx
 | y :: r, i, s, h, x, hx => by
  unfold nodesC at h
  cases hs : stepC nn s i y with
  | none => rw [hs] at h; exact absurd rfl h
  | some s' =>
   rw [hs] at h
   rcases List.mem_cons.1 hx with rfl | hx
   ·unfold stepC at hs
    split at hs
    ·rename_i hc; exact hc.1
    ·cases hs
   ·exact nodesC_named nn r (i + 1) s' h x hx
theorem check_named {N : List ByteArray} {D : List Nod} (h : checkV N D = 0) : D.length ≤ 5000 ∧ N.length ≤ 1000 ∧ ∀ x, x ∈ D → namedP N.length x = true := by
 unfold checkV at h
 split at h
 ·cases h
 ·rename_i h0
  split at h
  ·cases h
  ·rename_i h1
   refine ⟨by omega, by omega, nodesC_named _ D 0 (zeroC D.length) ?_⟩
   intro e
   rw [e] at h1
   exact h1 rfl
theorem named_kind {nn : Nat} {x : Nod} (h : namedP nn x = true) : (x.f0 ≠ 3 → 0 ≤ x.f1 ∧ x.f1 < nn) ∧ (x.f0 = 1 ∨ x.f0 = 2 ∨ x.f0 = 3) := by
 unfold namedP at h
 split at h
 ·rename_i e; exact ⟨fun c => absurd e c, .inr (.inr e)⟩
 ·rw [Bool.and_eq_true, Bool.and_eq_true, decide_eq_true_eq, decide_eq_true_eq, Bool.or_eq_true, decide_eq_true_eq, Bool.and_eq_true, decide_eq_true_eq] at h
  refine ⟨fun _ => h.1, ?_⟩
  rcases h.2 with h | h
  ·exact .inr (.inl h)
  ·exact .inl h.1
theorem okN_of {N : List ByteArray} {D : List Nod} (h : checkV N D = 0) (h1 : ∀ x, x ∈ N → x.size ≤ 1000000000) (h2 : ∀ x, x ∈ D → x.f3.size ≤ 1000000000) : okN N D :=
 ⟨h1, h2, fun x hx hc => (named_kind ((check_named h).2.2 x hx)).1 hc⟩
structure WInv (D : List Nod) (i : Nat) (s : WS) : Prop where
 ok : okO D s
 len : s.out.length + 1100000000 * s.op.length ≤ 9000000000 * i
 op : s.op.length ≤ i
theorem closeW_inv {N : List ByteArray} {D : List Nod} (h : okN N D) (p : Int) {i : Nat} : ∀ (k : Nat) (s : WS), WInv D i s → WInv D i (closeW N D p k s)
 | 0, s, hs => hs
 | k + 1, s, hs => by
  unfold closeW
  split
  ·exact hs
  ·rename_i hc
   have hne : s.op ≠ [] := fun e => hc (.inl e)
   refine closeW_inv h p k _ ⟨popW_ok hs.ok, Nat.le_trans (popW_len h hs.ok hne) hs.len, ?_⟩
   rw [popW_op, List.length_dropLast]
   have := hs.op; omega
theorem escL_size {x : ByteArray} (h : x.size ≤ 1000000000) : (escL x.data.toList).length ≤ 6000000000 := by
 have := escL_len x.data.toList
 rw [Lib.size_eq] at h
 omega
theorem name_size {N : List ByteArray} {D : List Nod} (h : okN N D) {x : Nod} (hx : x ∈ D) (hk : x.f0 ≠ 3) : (N.getD x.f1.toNat ⟨#[]⟩).data.toList.length ≤ 1000000000 := by
 have hn := h.2.2 x hx hk
 have := h.1 _ (getD_memN (k := x.f1.toNat) (by omega))
 rw [Lib.size_eq] at this
 exact this
theorem nodeW_inv {N : List ByteArray} {D : List Nod} (h : okN N D) {i : Nat} {x : Nod} (hi : i < D.length) (hx : D.getD i xz = x) {s : WS} (hs : WInv D i s) : WInv D (i + 1) (nodeW N D i x s) := by
 have hm : x ∈ D := by rw [← hx]; exact getD_memD hi
 have hc := closeW_inv h x.f2 s.op.length s hs
 have he := escL_size (h.2.1 x hm)
 unfold nodeW
 simp only
 generalize closeW N D x.f2 s.op.length s = c at hc
 by_cases k2 : x.f0 = 2
 ·rw [if_pos k2]
  have hn := name_size h hm (by omega)
  refine ⟨hc.ok, ?_, Nat.le_succ_of_le hc.op⟩
  have := hc.len
  simp only [List.length_append, List.length_cons, List.length_nil]
  omega
 ·rw [if_neg k2]
  have hr := readyW_len c
  by_cases k3 : x.f0 = 3
  ·rw [if_pos k3]
   refine ⟨hc.ok, ?_, Nat.le_succ_of_le hc.op⟩
   have := hc.len
   have e : (readyW c).op = c.op := rfl
   simp only [List.length_append, e]
   omega
  ·rw [if_neg k3]
   have hn := name_size h hm k3
   have := hc.len
   have hop := hc.op
   have e : (readyW c).op = c.op := rfl
   refine ⟨?_, ?_, ?_⟩
   ·intro j hj
    rcases List.mem_append.1 hj with hj | hj
    ·exact hc.ok j hj
    ·rw [List.mem_singleton] at hj
     subst hj
     refine ⟨by omega, by omega, ?_⟩
     rw [Int.toNat_natCast, hx]; exact k3
   ·simp only [List.length_append, List.length_cons, List.length_nil, e]
    omega
   ·simp only [List.length_append, List.length_cons, List.length_nil, e]
    omega
section
variable {w0 W W1 W2 : World} {b pb gb ob rb tr : Nat} {vN vD vO u : Value} {s : WS} {ops : Array Oper} {o : Oper} {a : Act} {Q : Exit → Act → World → Prop}
theorem isB_grown {B : Nat} {out : List UInt8} (h : IsB B b out W) {v : Value} {l : List Int} {ok : Nat → Prop} (hr : Kd.R (Kd.int .i64) 3 W B ok v l) (hg : W.grownBy W1 v.ownBlock) : IsB B b out W1 := by
 have key : ∀ {q : Value} {bs : List Value}, Lib.BuilderAt 65 5 B b q bs W → Lib.BuilderAt 65 5 B b q bs W1 := by
  intro q bs h
  obtain ⟨a1, u, a2, a3, a4⟩ := h
  refine ⟨a1, u, blk_grown a2 hg (Kd.R_ne hr a2 (by decide)), ⟨a3.1, ?_⟩, a4⟩
  rcases a3.2 with h5 | ⟨k, cap, cur, e1, e2, e3, e4⟩
  ·exact .inl h5
  ·exact .inr ⟨k, cap, cur, e1, e2, blk_grown e3 hg (Kd.R_ne hr e3 (by decide)), e4⟩
 rcases h with h | h
 ·exact .inl (key h)
 ·exact .inr (key h)
theorem Ww.app (h : Ww w0 W b pb gb ob rb tr vN vD vO s) (hg : W.grownBy W1 vO.ownBlock) {l : List Int} (ho : Kd.R (Kd.int .i64) 3 W1 w0.heap.size (fun _ => True) u l) (hb : Below w0.heap.size w0 W1) : Ww w0 (W1.setCell ⟨ob, 0, none⟩ u) b pb gb ob rb tr vN vD u { s with op := l } := by
 have kp : ∀ {q t : Nat} {y : Array Value}, W.heap[q]? = some (.cells y t (0, 0)) → 3 ≠ t → W1.heap[q]? = some (.cells y t (0, 0)) := fun hq ht => blk_grown hq hg (Kd.R_ne h.ro hq ht)
 have ne : ∀ {q t : Nat} {y : Array Value}, W.heap[q]? = some (.cells y t (0, 0)) → t ≠ 47 → q ≠ ob := fun {q t y} hq ht e => by
  have h2 := h.oc
  rw [← e, hq] at h2
  injection h2 with h2
  injection h2 with _ h2
  exact ht h2
 have hob := kp h.oc (by decide)
 exact ⟨isB_set (isB_grown h.bd h.ro hg) hob (by decide) (by decide) _ _, blk_far (kp h.pc (by decide)) (ne h.pc (by decide)) _, blk_far (kp h.gc (by decide)) (ne h.gc (by decide)) _, blk_set hob 0 _, blk_far (kp h.rc (by decide)) (ne h.rc (by decide)) _, blk_far (kp h.tc (by decide)) (ne h.tc (by decide)) _, R_away_set ho rfl (Kd.R_ne ho hob (by decide)) 0 _, h.ggb, h.gob, hb.setCell h.gob _⟩
theorem Ww.list {rest : List Oper} (h : Ww w0 W b pb gb ob rb tr vN vD vO s) (hl : s.op.length ≤ 1000000) (x : Int) (p y : Operand) (hgd : o.guard = none)
 (ho : o.op = .call { callee := .builtin .append, args := #[p, y], argTypes := #[47, 47] }) (hs : a.eval p = vO) (hx : a.eval y = .slice (some ⟨W.heap.size, 0, none⟩) 1 1)
 (hW : W2 = W.alloc (.cells #[.int .i64 x] 3))
 (K : ∀ A1 c1 w1, Ww w0 (w1.setCell ⟨ob, 0, none⟩ (.slice A1 (s.op.length + 1) c1)) b pb gb ob rb tr vN vD (.slice A1 (s.op.length + 1) c1) { s with op := s.op ++ [x] } → w1.cell? ⟨ob, 0, none⟩ = some vO → w1.frozen? ⟨ob, 0, none⟩ = false → wpList Tryz.prog ops Q rest (a.put o.dst (.slice A1 (s.op.length + 1) c1)) w1) :
 wpList Tryz.prog ops Q (o :: rest) a W2 := by
 subst hW
 refine Kd.R_append (Kd.int .i64) (w0 := w0) w0.heap.size hgd p y 47 3 (.int .i64 0) 8 ho Tryz.underlying47 infoInt rfl (by decide) (by omega) vO s.op x [.int .i64 x] (fun _ => True) (fun _ => False) hs hx rfl (fun _ hk => hk.elim) (fun _ _ => trivial) h.ro h.bel h.bel.size (by omega) ?_
 intro u w1 ho1 hb hg hat
 have hB := h.app hg ho1 hb
 have hk1 := blk_grown h.oc hg (Kd.R_ne h.ro h.oc (by decide))
 obtain ⟨A1, c1, rfl, -, -⟩ := Kd.R_reads ho1
 rw [show (s.op ++ [x]).length = s.op.length + 1 from by simp] at hB ⊢
 exact K A1 c1 w1 hB ((blk_cell hk1 0).trans rfl) (blk_frozen hk1 0)
end
end Go.Proofs.YtlhhhlimjajnlaaGreat.X
end
section
set_option linter.unusedVariables false
set_option linter.unusedSimpArgs false
namespace Go.Proofs.YtlhhhlimjajnlaaGreat.X
open Go.RowKit Go.Proofs.YtlhhhlimjajnlaaGreat Go.Proofs.YtlhhhlimjajnlaaGreat.Q Go.Proofs.YtlhhhlimjajnlaaGreatW.PrintWords Go.Proofs.YtlhhhlimjajnlaaGreatW.PrintLast Go.Proofs.YtlhhhlimjajnlaaGreatW.PrintMore
def smallC (N : List ByteArray) (D : List Nod) : Bool := (D.all fun x => decide (x.f3.size ≤ 4294967280)) && (N.all fun x => decide (x.size ≤ 4294967280))
def canon_Check.f (a0_0 : List ByteArray) (a0_1 : List Nod) : Option Int := if smallC a0_0 a0_1 = true then some (checkV a0_0 a0_1) else none
theorem canon_Check.calls (A0_0 : Option Addr) (c0_0 : Nat) (l0_0 : List ByteArray) (A0_1 : Option Addr) (c0_1 : Nat) (l0_1 : List Nod) (r : Int) (w : World) (hr0_0 : Kd.C Kd.string w A0_0 l0_0.length l0_0) (hc0_0 : l0_0.length ≤ c0_0) (hr0_1 : Kd.C k41 w A0_1 l0_1.length l0_1) (hc0_1 : l0_1.length ≤ c0_1) (h : canon_Check.f l0_0 l0_1 = some r) :
 Calls Tryz.prog 19 #[.agg #[.slice A0_0 l0_0.length c0_0, .slice A0_1 l0_1.length c0_1]] w fun e w' => e = .returned (.int .i64 r) ∧ Below w.heap.size w w' := by
 unfold canon_Check.f at h
 split at h
 ·rename_i hs
  obtain rfl := Option.some.inj h
  unfold smallC at hs
  rw [Bool.and_eq_true, List.all_eq_true, List.all_eq_true] at hs
  exact check_all hr0_0 hr0_1 (fun x hx => of_decide_eq_true (hs.1 x hx)) (fun x hx => of_decide_eq_true (hs.2 x hx))
 ·cases h
end Go.Proofs.YtlhhhlimjajnlaaGreat.X
end
