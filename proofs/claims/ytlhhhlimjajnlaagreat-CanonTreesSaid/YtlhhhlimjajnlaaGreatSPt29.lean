/- Parts of the proof of canonTrees_holds, kept and merged by a program of mine (wip/tools/slim.py) out of my texts: CanI -/
import Derived.Test.YtlhhhlimjajnlaaGreatSPt0
import Derived.WalkSpells
import Derived.Test.YtlhhhlimjajnlaaGreatSPt21
import Derived.Test.YtlhhhlimjajnlaaGreatSPt27
import Derived.Test.YtlhhhlimjajnlaaGreatSPt28
section
set_option linter.unusedVariables false
set_option linter.unusedSimpArgs false
namespace Go.Proofs.YtlhhhlimjajnlaaGreat.X
open Go.RowKit Go.Maps Go.Proofs.YtlhhhlimjajnlaaGreat Go.Proofs.YtlhhhlimjajnlaaGreat.Q Go.Proofs.YtlhhhlimjajnlaaGreat.P11 Go.Proofs.YtlhhhlimjajnlaaGreatW.PrintWords Go.Proofs.YtlhhhlimjajnlaaGreatW.PrintLast Go.Proofs.YtlhhhlimjajnlaaGreatW.PrintMore
attribute [local go_sem] max2_int min2_int max_two min_two str_geq   
abbrev xz : Nod := ⟨0, 0, 0, ⟨#[]⟩⟩
structure Lp (w W : World) (tr mb tb ab g u n nn : Nat) (vN vD : Value) (D : List Nod) (R : Option CS) (i : Nat) (s : CS) (f : Nat → Option Nat) (vO : Value) : Prop where
 cr : Cr w W g vN vD vO mb tb ab n s f
 us : W.ownsMap Tryz.prog 3 RB u i (keysI ((D.take i).map (·.f1)))
 un : ∀ p, f p ≠ some u
 uw : w.heap.size ≤ u
 tre : W.heap[tr]? = some (.cells #[vN, vD] 27 (0, 0))
 tw : w.heap.size ≤ tr
 inv : CInv i n s
 res : nodesC nn (D.drop i) i s = R
theorem lp_zero {w W3 : World} (hb : Below w.heap.size w W3) {tr mb tb ab n nn : Nat} {vN vD : Value} {D : List Nod} {R : Option CS} (hR : nodesC nn D 0 (zeroC n) = R)
 (ht : W3.heap[tr]? = some (.cells #[vN, vD] 27 (0, 0))) (h1 : W3.heap[mb]? = some (.cells (bcells (List.replicate n false)) 4 (0, 0))) (h2 : W3.heap[tb]? = some (.cells (bcells (List.replicate n false)) 4 (0, 0))) (h3 : W3.heap[ab]? = some (.cells (mcells (fun _ => none) n) 80 (0, 0)))
 (g0 : w.heap.size ≤ tr) (g1 : w.heap.size ≤ mb) (g2 : w.heap.size ≤ tb) (g3 : w.heap.size ≤ ab) (ne : mb ≠ tb) (g u : Nat) (hg : W3.heap.size = g) (hu : g + 1 = u) :
 Lp w ((W3.alloc (.cells #[vN, vD, .slice none 0 0, .slice (some ⟨mb, 0, none⟩) n n, .slice (some ⟨tb, 0, none⟩) n n, .slice (some ⟨ab, 0, none⟩) n n] 79)).alloc (.map #[] 0)) tr mb tb ab g u n nn vN vD D R 0 (zeroC n) (fun _ => none) (.slice none 0 0) := by
 subst hg hu
 have hB : Below W3.heap.size W3 ((W3.alloc (.cells #[vN, vD, .slice none 0 0, .slice (some ⟨mb, 0, none⟩) n n, .slice (some ⟨tb, 0, none⟩) n n, .slice (some ⟨ab, 0, none⟩) n n] 79)).alloc (.map #[] 0)) := below_alloc (below_alloc (Below.refl _ _) _) _
 have hs : (W3.alloc (.cells #[vN, vD, .slice none 0 0, .slice (some ⟨mb, 0, none⟩) n n, .slice (some ⟨tb, 0, none⟩) n n, .slice (some ⟨ab, 0, none⟩) n n] 79)).heap.size = W3.heap.size + 1 := Array.size_push _
 have hc := blk_below (blk_new W3 (.cells #[vN, vD, .slice none 0 0, .slice (some ⟨mb, 0, none⟩) n n, .slice (some ⟨tb, 0, none⟩) n n, .slice (some ⟨ab, 0, none⟩) n n] 79)) (below_alloc (Below.refl _ _) (.map #[] 0))
 have hw := hb.size
 have ho := World.ownsMap_made (W3.alloc (.cells #[vN, vD, .slice none 0 0, .slice (some ⟨mb, 0, none⟩) n n, .slice (some ⟨tb, 0, none⟩) n n, .slice (some ⟨ab, 0, none⟩) n n] 79)) Tryz.prog 3 RB
 rw [hs] at ho
 refine ⟨⟨hc, hw, Kd.R_nil _ _ _ _ _, blk_below h1 hB, blk_below h2 hB, blk_below h3 hB, List.length_replicate, List.length_replicate, g1, g2, g3, ne, fun p hp => rfl, fun p ks hp => (by cases hp), fun p q b hp => (by cases hp), below_step hb hB⟩, ?_, fun p => by simp, by omega, blk_below ht hB, g0, zero_inv n, hR⟩
 exact ho
theorem cut_of {T G : Prop} (k : T → G) (p : T) : G := k p
theorem six (w : World) (B : Nat) (hB : w.heap.size = B) (T o1 o2 o3 : Obj) : ((((w.alloc T).alloc o1).alloc o2).alloc o3).heap[B]? = some T ∧ ((((w.alloc T).alloc o1).alloc o2).alloc o3).heap[B + 1]? = some o1 ∧ ((((w.alloc T).alloc o1).alloc o2).alloc o3).heap[B + 1 + 1]? = some o2 ∧ ((((w.alloc T).alloc o1).alloc o2).alloc o3).heap[B + 1 + 1 + 1]? = some o3 ∧ ((((w.alloc T).alloc o1).alloc o2).alloc o3).heap.size = B + 1 + 1 + 1 + 1 ∧ Below w.heap.size w ((((w.alloc T).alloc o1).alloc o2).alloc o3) := by
 subst hB
 have al : ∀ (W : World) (o : Obj), (W.alloc o).heap.size = W.heap.size + 1 := fun W o => Array.size_push _
 have a0 := blk_new w T
 have a1 := blk_new (w.alloc T) o1
 have a2 := blk_new ((w.alloc T).alloc o1) o2
 have a3 := blk_new (((w.alloc T).alloc o1).alloc o2) o3
 rw [al] at a1
 rw [al, al] at a2
 rw [al, al, al] at a3
 have r : ∀ W : World, Below W.heap.size W W := fun W => Below.refl _ _
 refine ⟨blk_below a0 (below_alloc (below_alloc (below_alloc (r _) _) _) _), blk_below a1 (below_alloc (below_alloc (r _) _) _), blk_below a2 (below_alloc (r _) _), a3, by rw [al, al, al, al], below_alloc (below_alloc (below_alloc (below_alloc (r _) _) _) _) _⟩
theorem Lp.below {w W W1 : World} {tr mb tb ab g u n nn i : Nat} {vN vD vO : Value} {D : List Nod} {R : Option CS} {s : CS} {f : Nat → Option Nat} (h : Lp w W tr mb tb ab g u n nn vN vD D R i s f vO) (hb : Below W.heap.size W W1) : Lp w W1 tr mb tb ab g u n nn vN vD D R i s f vO :=
 ⟨h.cr.below hb, h.us.kept (grown_of_below hb) (by simp), h.un, h.uw, blk_below h.tre hb, h.tw, h.inv, h.res⟩
theorem frm_facts {w w3 w4 : World} {tr mb tb ab g u n nn i q tq : Nat} {vN vD vO : Value} {D : List Nod} {R : Option CS} {s : CS} {f : Nat → Option Nat} {x : Array Value} (h : Lp w w3 tr mb tb ab g u n nn vN vD D R i s f vO) (hx : w3.heap[q]? = some (.cells x tq (0, 0))) (hfr : Frm w3 w4 g mb tb f) (hg : g < q) (hm : mb < q) (ht : tb < q) :
 w4.heap[q]? = some (.cells x tq (0, 0)) ∧ w4.ownsMap Tryz.prog 3 RB u i (keysI ((D.take i).map (·.f1))) ∧ w4.heap[tr]? = some (.cells #[vN, vD] 27 (0, 0)) :=
 ⟨(hfr q (blk_lt hx) (by omega) (by omega) (by omega) (fun p => h.cr.fne hx p)).trans hx,
  owns_eq h.us (hfr u h.us.lt (owns_ne h.us h.cr.blk) (owns_ne h.us h.cr.bm) (owns_ne h.us h.cr.bt) h.un),
  (hfr tr (blk_lt h.tre) (blk_no h.tre h.cr.blk (by decide)) (blk_no h.tre h.cr.bm (by decide)) (blk_no h.tre h.cr.bt (by decide)) (fun p => h.cr.fne h.tre p)).trans h.tre⟩
theorem lp_done {w w5 : World} {tr mb tb ab g u n nn i : Nat} {vN vD vO : Value} {D : List Nod} {R : Option CS} {s : CS} {f : Nat → Option Nat} {x : Nod} (hc : Cr w w5 g vN vD vO mb tb ab n s f) (ho : w5.ownsMap Tryz.prog 3 RB u (i + 1) (keysI ((D.take (i + 1)).map (·.f1)))) (un : ∀ p, f p ≠ some u) (uw : w.heap.size ≤ u) (ht : w5.heap[tr]? = some (.cells #[vN, vD] 27 (0, 0))) (tw : w.heap.size ≤ tr)
 (hI : (∀ z, z ∈ s.op → 0 ≤ z ∧ z < (i : Int) ∧ ∃ ks, s.a z.toNat = some ks) ∧ s.op.length ≤ i ∧ (∀ p ks, s.a p = some ks → p < i ∧ ks.length ≤ i + 1) ∧ s.m.length = n ∧ s.t.length = n) (hr : nodesC nn (D.drop (i + 1)) (i + 1) (openC s i x) = R) (hx : ¬ x.f0 = 1) :
 Lp w w5 tr mb tb ab g u n nn vN vD D R (i + 1) s f vO := by
 have hs : openC s i x = s := if_neg hx
 have hJ := open_inv (x := x) hI
 rw [hs] at hr hJ
 exact ⟨hc, ho, un, uw, ht, tw, hJ, hr⟩
theorem lp_open {w w5 w6 : World} {tr mb tb ab g u n nn i : Nat} {vN vD vO v : Value} {D : List Nod} {R : Option CS} {s : CS} {f : Nat → Option Nat} {x : Nod} (hc : Cr w w5 g vN vD vO mb tb ab n s f) (ho : w5.ownsMap Tryz.prog 3 RB u (i + 1) (keysI ((D.take (i + 1)).map (·.f1)))) (un : ∀ p, f p ≠ some u) (uw : w.heap.size ≤ u) (ht : w5.heap[tr]? = some (.cells #[vN, vD] 27 (0, 0))) (tw : w.heap.size ≤ tr)
 (hI : (∀ z, z ∈ s.op → 0 ≤ z ∧ z < (i : Int) ∧ ∃ ks, s.a z.toNat = some ks) ∧ s.op.length ≤ i ∧ (∀ p ks, s.a p = some ks → p < i ∧ ks.length ≤ i + 1) ∧ s.m.length = n ∧ s.t.length = n) (hr : nodesC nn (D.drop (i + 1)) (i + 1) (openC s i x) = R) (hx : x.f0 = 1)
 (hg : w5.grownBy w6 vO.ownBlock) (h6 : Cr w (w6.setCell ⟨g, 2, none⟩ v) g vN vD v mb tb ab n { s with op := s.op ++ [(i : Int)] } f) :
 Lp w (((w6.setCell ⟨g, 2, none⟩ v).alloc (.map #[] 0)).setCell ⟨ab, i, none⟩ (.map (some (w6.setCell ⟨g, 2, none⟩ v).heap.size))) tr mb tb ab g u n nn vN vD D R (i + 1) (openC s i x) (fun p => if p = i then some (w6.setCell ⟨g, 2, none⟩ v).heap.size else f p) v := by
 have hai : s.a i = none := by
  cases h : s.a i with
  | none => rfl
  | some ks => have := hI.2.2.1 i ks h; omega
 have hs : openC s i x = { s with op := s.op ++ [(i : Int)], a := fun p => if p = i then some [] else s.a p } := if_pos hx
 have h7 := h6.newk i hai
 have hug : u ≠ g := owns_ne ho hc.blk
 have hu6 := (ho.kept hg (fun e => by obtain ⟨cells, hcc⟩ := Kd.R_typed hc.ro u e.symm; exact owns_ne ho hcc rfl)).setCell (a := ⟨g, 2, none⟩) hug v
 have hua : u ≠ ab := owns_ne ho hc.ba
 have htg : tr ≠ g := blk_no ht hc.blk (by decide)
 have hta : tr ≠ ab := blk_no ht hc.ba (by decide)
 have ht6 : (w6.setCell ⟨g, 2, none⟩ v).heap[tr]? = some (.cells #[vN, vD] 27 (0, 0)) := blk_far (blk_grown ht hg (Kd.R_ne hc.ro ht (by decide))) htg v
 refine ⟨by rw [hs]; exact h7, (hu6.alloc (.map #[] 0)).setCell hua _, ?_, uw, blk_far (blk_below ht6 (below_alloc (Below.refl _ _) _)) hta _, tw, open_inv hI, hr⟩
 intro p e
 have e : (if p = i then some (w6.setCell ⟨g, 2, none⟩ v).heap.size else f p) = some u := e
 by_cases c : p = i
 ·rw [if_pos c] at e
  injection e with e
  have := hu6.lt
  omega
 ·rw [if_neg c] at e
  exact un p e
def goodN (N : List ByteArray) (D : List Nod) (k : Nat) : Bool := (D.any fun x => decide (x.f1 = (k : Int))) && ((!(N.getD k ⟨#[]⟩).data.toList.isEmpty && (nameEndP (N.getD k ⟨#[]⟩).data.toList 0 == ((N.getD k ⟨#[]⟩).size : Int))) && (decide (k = 0) || decide ((N.getD (k - 1) ⟨#[]⟩).data.toList < (N.getD k ⟨#[]⟩).data.toList)))
def goodAll (N : List ByteArray) (D : List Nod) (k : Nat) : Bool := (List.range k).all (goodN N D)
theorem goodAll_step {N : List ByteArray} {D : List Nod} {k : Nat} (h : goodAll N D k = true) (g : goodN N D k = true) : goodAll N D (k + 1) = true := by
 unfold goodAll at *
 rw [List.range_succ, List.all_append, h, List.all_cons, g]; rfl
theorem goodAll_bad {N : List ByteArray} {D : List Nod} {k : Nat} (hk : k < N.length) (g : goodN N D k = false) : ¬ namesC N D = true := by
 intro h
 have h : (List.range N.length).all (goodN N D) = true := h
 have := List.all_eq_true.1 h k (List.mem_range.2 hk)
 rw [g] at this; cases this
theorem any_mem (D : List Nod) (k : Int) : (D.any fun x => decide (x.f1 = k)) = decide (k ∈ D.map (·.f1)) := by
 rw [Bool.eq_iff_iff, List.any_eq_true, decide_eq_true_iff, List.mem_map]
 exact ⟨fun ⟨x, h1, h2⟩ => ⟨x, h1, by simpa using h2⟩, fun ⟨x, h1, h2⟩ => ⟨x, h1, by simpa using h2⟩⟩
theorem name_bit (s : List UInt8) (z : Int) : (if s = [] then false else nameEndP s 0 == z) = (!s.isEmpty && (nameEndP s 0 == z)) := by
 cases s with
 | nil => rfl
 | cons a r => rfl
theorem goodN_of {N : List ByteArray} {D : List Nod} {k : Nat} {S : ByteArray} (hS : N.getD k ⟨#[]⟩ = S) {b1 b2 b3 : Bool} (h1 : decide ((k : Int) ∈ D.map (·.f1)) = b1) (h2 : (if S.data.toList = [] then false else nameEndP S.data.toList 0 == (S.size : Int)) = b2) (h3 : (decide (k = 0) || decide ((N.getD (k - 1) ⟨#[]⟩).data.toList < S.data.toList)) = b3) : goodN N D k = (b1 && (b2 && b3)) := by
 unfold goodN
 rw [hS, any_mem, h1, ← name_bit, h2, h3]
set_option maxHeartbeats 16000000 in
set_option maxRecDepth 100000 in
theorem check_c {w : World} {AN AD : Option Addr} {cN cD : Nat} {N : List ByteArray} {D : List Nod} (hN : Kd.C Kd.string w AN N.length N) (hD : Kd.C k41 w AD D.length D) (hl : 0 < D.length) (hl2 : D.length ≤ 5000) (hl3 : N.length ≤ 1000) (hDs : ∀ x, x ∈ D → x.f3.size ≤ 4294967280) (hNs : ∀ x, x ∈ N → x.size ≤ 4294967280) (V : Int) (hV0 : nodesC N.length D 0 (zeroC D.length) = none → V = 1) (hV1 : ¬ nodesC N.length D 0 (zeroC D.length) = none → V = if namesC N D = true then 0 else 1) :
 Calls Tryz.prog 19 #[.agg #[.slice AN N.length cN, .slice AD D.length cD]] w fun e w' => e = .returned (.int .i64 V) ∧ Below w.heap.size w w' := by
 obtain ⟨n, hn⟩ : ∃ n, D.length = n := ⟨_, rfl⟩
 obtain ⟨nn, hnn⟩ : ∃ nn, N.length = nn := ⟨_, rfl⟩
 rw [hn, hnn] at hV0 hV1
 have HN := Lib.hid hN
 have HD := Lib.hid hD
 obtain ⟨R, hR⟩ : ∃ R, nodesC nn D 0 (zeroC n) = R := ⟨_, rfl⟩
 have HR := Lib.hid hR
 rw [hR] at hV0 hV1
 have HV0 := Lib.hid hV0
 have HV1 := Lib.hid hV1
 have HDS := Lib.hid hDs
 have HNS := Lib.hid hNs
 rw [hn] at hl hl2 HD ⊢
 rw [hnn] at hl3 HN ⊢
 clear hN hD hR hV0 hV1 hDs hNs
 have p0 : ((n : Int) == 0) = false := beqI_f (by omega)
 have p1 : ((5000 : Int) < (n : Int)) = False := eq_false (by omega)
 have p2 : ((1000 : Int) < (nn : Int)) = False := eq_false (by omega)
 have p3 : ((0 : Int) ≤ (n : Int)) = True := eq_true (by omega)
 have hmm := @run_makeMap Tryz.prog
 have hmb := fun W => make_b W n hl2
 have hmc := fun W => make_m W n hl2
 go_enter Tryz.func19, Tryz.ntmps19
 go_wp2
 obtain ⟨B, hB⟩ : ∃ B, w.heap.size = B := ⟨_, rfl⟩
 have q0 : w.heap.size ≤ B := by omega
 have q1 : w.heap.size ≤ B + 1 := by omega
 have q2 : w.heap.size ≤ B + 1 + 1 := by omega
 have q3 : w.heap.size ≤ B + 1 + 1 + 1 := by omega
 have q12 : B + 1 ≠ B + 1 + 1 := by omega
 have q13 : B + 1 ≠ B + 1 + 1 + 1 := by omega
 have q23 : B + 1 + 1 ≠ B + 1 + 1 + 1 := by omega
 apply cut_of
 case k =>
  intro key
  go_region
  all_goals (try go_wp2)
  all_goals rw [hB]
  all_goals rename_i K hK
  ·have hL : Lp w (((((((w.alloc (.cells #[.slice AN nn cN, .slice AD n cD] 27)).alloc (.cells (bcells (List.replicate n false)) 4)).alloc (.cells (bcells (List.replicate n false)) 4)).alloc (.cells (mcells (fun _ => none) n) 80)).alloc (.cells #[.slice AN nn cN, .slice AD n cD, .slice none 0 0, .slice (some ⟨B + 1, 0, none⟩) n n, .slice (some ⟨B + 1 + 1, 0, none⟩) n n, .slice (some ⟨B + 1 + 1 + 1, 0, none⟩) n n] 79)).alloc (.map #[] 0))) B (B + 1) (B + 1 + 1) (B + 1 + 1 + 1) (B + 1 + 1 + 1 + 1) (B + 1 + 1 + 1 + 1 + 1) n nn (.slice AN nn cN) (.slice AD n cD) D R 0 (zeroC n) (fun _ => none) (.slice none 0 0) := lp_zero (six w B hB _ _ _ _).2.2.2.2.2 HR.out (six w B hB _ _ _ _).1 (six w B hB _ _ _ _).2.1 (six w B hB _ _ _ _).2.2.1 (six w B hB _ _ _ _).2.2.2.1 q0 q1 q2 q3 q12 _ _ (six w B hB _ _ _ _).2.2.2.2.1 rfl
   generalize ((((((w.alloc (.cells #[.slice AN nn cN, .slice AD n cD] 27)).alloc (.cells (bcells (List.replicate n false)) 4)).alloc (.cells (bcells (List.replicate n false)) 4)).alloc (.cells (mcells (fun _ => none) n) 80)).alloc (.cells #[.slice AN nn cN, .slice AD n cD, .slice none 0 0, .slice (some ⟨B + 1, 0, none⟩) n n, .slice (some ⟨B + 1 + 1, 0, none⟩) n n, .slice (some ⟨B + 1 + 1 + 1, 0, none⟩) n n] 79)).alloc (.map #[] 0)) = W at hL ⊢
   generalize B + 1 + 1 + 1 + 1 + 1 = u at hL ⊢
   generalize B + 1 + 1 + 1 + 1 = g at hL ⊢
   generalize B + 1 + 1 + 1 = ab at hL ⊢
   generalize B + 1 + 1 = tb at hL ⊢
   generalize B + 1 = mb at hL ⊢
   revert hL
   revert W
   revert u
   revert g
   revert ab
   revert tb
   revert mb
   revert hK
   revert K
   exact key
  all_goals first
   | exact key K hK (B + 1) (B + 1 + 1) (B + 1 + 1 + 1) (B + 1 + 1 + 1 + 1) (B + 1 + 1 + 1 + 1 + 1) _ (lp_zero (six w B hB _ _ _ _).2.2.2.2.2 HR.out (six w B hB _ _ _ _).1 (six w B hB _ _ _ _).2.1 (six w B hB _ _ _ _).2.2.1 (six w B hB _ _ _ _).2.2.2.1 q0 q1 q2 q3 q12 _ _ (six w B hB _ _ _ _).2.2.2.2.1 rfl)
   | exact key K hK (B + 1) (B + 1 + 1 + 1) (B + 1 + 1) (B + 1 + 1 + 1 + 1) (B + 1 + 1 + 1 + 1 + 1) _ (lp_zero (six w B hB _ _ _ _).2.2.2.2.2 HR.out (six w B hB _ _ _ _).1 (six w B hB _ _ _ _).2.1 (six w B hB _ _ _ _).2.2.2.1 (six w B hB _ _ _ _).2.2.1 q0 q1 q3 q2 q13 _ _ (six w B hB _ _ _ _).2.2.2.2.1 rfl)
   | exact key K hK (B + 1 + 1) (B + 1) (B + 1 + 1 + 1) (B + 1 + 1 + 1 + 1) (B + 1 + 1 + 1 + 1 + 1) _ (lp_zero (six w B hB _ _ _ _).2.2.2.2.2 HR.out (six w B hB _ _ _ _).1 (six w B hB _ _ _ _).2.2.1 (six w B hB _ _ _ _).2.1 (six w B hB _ _ _ _).2.2.2.1 q0 q2 q1 q3 (Ne.symm q12) _ _ (six w B hB _ _ _ _).2.2.2.2.1 rfl)
   | exact key K hK (B + 1 + 1) (B + 1 + 1 + 1) (B + 1) (B + 1 + 1 + 1 + 1) (B + 1 + 1 + 1 + 1 + 1) _ (lp_zero (six w B hB _ _ _ _).2.2.2.2.2 HR.out (six w B hB _ _ _ _).1 (six w B hB _ _ _ _).2.2.1 (six w B hB _ _ _ _).2.2.2.1 (six w B hB _ _ _ _).2.1 q0 q2 q3 q1 q23 _ _ (six w B hB _ _ _ _).2.2.2.2.1 rfl)
   | exact key K hK (B + 1 + 1 + 1) (B + 1) (B + 1 + 1) (B + 1 + 1 + 1 + 1) (B + 1 + 1 + 1 + 1 + 1) _ (lp_zero (six w B hB _ _ _ _).2.2.2.2.2 HR.out (six w B hB _ _ _ _).1 (six w B hB _ _ _ _).2.2.2.1 (six w B hB _ _ _ _).2.1 (six w B hB _ _ _ _).2.2.1 q0 q3 q1 q2 (Ne.symm q13) _ _ (six w B hB _ _ _ _).2.2.2.2.1 rfl)
   | exact key K hK (B + 1 + 1 + 1) (B + 1 + 1) (B + 1) (B + 1 + 1 + 1 + 1) (B + 1 + 1 + 1 + 1 + 1) _ (lp_zero (six w B hB _ _ _ _).2.2.2.2.2 HR.out (six w B hB _ _ _ _).1 (six w B hB _ _ _ _).2.2.2.1 (six w B hB _ _ _ _).2.2.1 (six w B hB _ _ _ _).2.1 q0 q3 q2 q1 (Ne.symm q23) _ _ (six w B hB _ _ _ _).2.2.2.2.1 rfl)
 case p =>
  clear hmb hmc
  intro K hK mb tb ab g u W hL
  go_loopw [38] (fun t wr => ∃ i : Nat, i ≤ n ∧ t = .int .i64 i ∧ ∃ s f vO, Hid (Lp w wr B mb tb ab g u n nn (.slice AN nn cN) (.slice AD n cD) D R i s f vO)) (fun t wr => n - (intOf t).toNat)
  case atStart => exact ⟨0, Nat.zero_le _, rfl, _, _, _, Lib.hid (by first | exact hL | exact hL.below (below_drew (Below.refl _ _)))⟩
  case round =>
   clear hL
   obtain ⟨i, hi, rfl, s, f, vO, HL⟩ := hrel
   by_cases hlt : i < n
   ·have hC := Kd.C_below HD.out HL.out.cr.bel
    obtain ⟨ad, hA, r0, r1, r2, r3⟩ := at_T41 hC (i : Int) (by omega) (by omega)
    subst hA
    have hrd : rd_T41 D (i : Int) = D.getD i xz := by unfold rd_T41; rw [Int.toNat_natCast]; rfl
    rw [hrd, Int.toNat_natCast] at r0 r1 r2 r3
    have hiD : i < D.length := by omega
    have hmem : D.getD i xz ∈ D := by rw [List.getD_eq_getElem?_getD, List.getElem?_eq_getElem hiD]; exact List.getElem_mem hiD
    have hdrop : D.drop i = D.getD i xz :: D.drop (i + 1) := by rw [List.drop_eq_getElem_cons hiD, List.getD_eq_getElem?_getD, List.getElem?_eq_getElem hiD]; rfl
    have htake : (D.take (i + 1)).map (·.f1) = (D.take i).map (·.f1) ++ [(D.getD i xz).f1] := by rw [List.take_add_one, List.map_append, List.getD_eq_getElem?_getD, List.getElem?_eq_getElem hiD]; rfl
    have hxs := HDS.out _ hmem
    have hres := HL.out.res
    rw [hdrop] at hres
    obtain ⟨x, hx⟩ : ∃ x, D.getD i xz = x := ⟨_, rfl⟩
    rw [hx] at r0 r1 r2 r3 hxs hres htake
    have hres : (match stepC nn s i x with | none => none | some s' => nodesC nn (D.drop (i + 1)) (i + 1) s') = R := hres
    have HTK := Lib.hid htake
    have hVa : ∀ W, Calls Tryz.prog 46 #[.string x.f3] W fun e w' => e = .returned (.bool (validL x.f3.data.toList)) ∧ Below W.heap.size W w' := fun W => chars_Valid.calls (x.f3.size + 2 + 0) x.f3 _ W (valid_f x.f3 (by omega) 0)
    have p0 : ((0 : Int) ≤ (i : Int)) = True := eq_true (by omega)
    have p1 : ((i : Int) < (n : Int)) = True := eq_true (by omega)
    have e1 : IntKind.i64.wrap ((i : Int) + 1) = ((i + 1 : Nat) : Int) := zz28
    have HVA := Lib.hid hVa
    have HLT := Lib.hid hlt
    have HL2 := Lib.hid hl2
    have HL3 := Lib.hid hl3
    clear hVa hdrop htake hmem hiD hrd hC hx
    unfold stepC at hres
    by_cases nm : namedP nn x = true
    rotate_left
    ·rw [if_neg (fun h => nm h.1)] at hres
     have hR1 : V = 1 := HV0.out hres.symm
     have HR1 := Lib.hid hR1
     have nmf : namedP nn x = false := by simpa using nm
     have HNM := Lib.hid nmf
     clear hres hR1 nm nmf
     go_wp2_with (go_at_call 45; refine (named_c (HL.out.cr.below (zz8)) (by have := HL3.out; omega) x).mono ?_; rw [HNM.out]; rintro e w2 ⟨rfl, hb2⟩; have hbx2 : w2.heap[wr.heap.size]? = some (.cells #[.int .i64 x.f0, .int .i64 x.f1, .int .i64 x.f2, .string x.f3] 41 (0, 0)) := blk_below (blk_new wr _) hb2; have hy0 := (blk_cell hbx2 0).trans (show _ = some (Value.int .i64 x.f0) from rfl); have hy1 := (blk_cell hbx2 1).trans (show _ = some (Value.int .i64 x.f1) from rfl); have hy2 := (blk_cell hbx2 2).trans (show _ = some (Value.int .i64 x.f2) from rfl); have hy3 := (blk_cell hbx2 3).trans (show _ = some (Value.string x.f3) from rfl); have HBX2 := Lib.hid hbx2; have H2 := Lib.hid (HL.out.below (below_step (below_alloc (Below.refl wr.heap.size wr) _) hb2)); clear hb2 hbx2)
     first | go_ret | go_ret2 | go_ret3
     exact ⟨congrArg (fun z => Ending.returned (Value.int .i64 z)) HR1.out.symm, H2.out.cr.bel⟩
    have HNM := Lib.hid nm
    by_cases vl : validL x.f3.data.toList = true
    rotate_left
    ·rw [if_neg (fun h => vl h.2)] at hres
     have hR1 : V = 1 := HV0.out hres.symm
     have HR1 := Lib.hid hR1
     have vlf : validL x.f3.data.toList = false := by simpa using vl
     have HVL := Lib.hid vlf
     clear hres hR1 nm vl vlf
     go_wp2_with (first | (go_at_call 45; refine (named_c (HL.out.cr.below (zz8)) (by have := HL3.out; omega) x).mono ?_; rw [HNM.out]; rintro e w2 ⟨rfl, hb2⟩; have hbx2 : w2.heap[wr.heap.size]? = some (.cells #[.int .i64 x.f0, .int .i64 x.f1, .int .i64 x.f2, .string x.f3] 41 (0, 0)) := blk_below (blk_new wr _) hb2; have hy0 := (blk_cell hbx2 0).trans (show _ = some (Value.int .i64 x.f0) from rfl); have hy1 := (blk_cell hbx2 1).trans (show _ = some (Value.int .i64 x.f1) from rfl); have hy2 := (blk_cell hbx2 2).trans (show _ = some (Value.int .i64 x.f2) from rfl); have hy3 := (blk_cell hbx2 3).trans (show _ = some (Value.string x.f3) from rfl); have HBX2 := Lib.hid hbx2; have H2 := Lib.hid (HL.out.below (below_step (below_alloc (Below.refl wr.heap.size wr) _) hb2)); clear hb2 hbx2) | (go_at_call 46; refine (HVA.out _).mono ?_; rw [HVL.out]; rintro e w3 ⟨rfl, hb3⟩; have hbx3 := blk_below HBX2.out hb3; have hz0 := (blk_cell hbx3 0).trans (show _ = some (Value.int .i64 x.f0) from rfl); have hz1 := (blk_cell hbx3 1).trans (show _ = some (Value.int .i64 x.f1) from rfl); have hz2 := (blk_cell hbx3 2).trans (show _ = some (Value.int .i64 x.f2) from rfl); have hz3 := (blk_cell hbx3 3).trans (show _ = some (Value.string x.f3) from rfl); have HBX3 := Lib.hid hbx3; have H3 := Lib.hid (H2.out.below hb3); clear hb3 hbx3))
     first | go_ret | go_ret2 | go_ret3
     exact ⟨congrArg (fun z => Ending.returned (Value.int .i64 z)) HR1.out.symm, H3.out.cr.bel⟩
    have HVL := Lib.hid vl
    rw [if_pos ⟨nm, vl⟩] at hres
    cases hrt : rightC s i x with
    | none =>
     rw [hrt] at hres
     have hR1 : V = 1 := HV0.out hres.symm
     have HR1 := Lib.hid hR1
     have HRT := Lib.hid hrt
     clear hres hR1 nm vl hrt
     go_wp2_with (first | (go_at_call 45; refine (named_c (HL.out.cr.below (zz8)) (by have := HL3.out; omega) x).mono ?_; rw [HNM.out]; rintro e w2 ⟨rfl, hb2⟩; have hbx2 : w2.heap[wr.heap.size]? = some (.cells #[.int .i64 x.f0, .int .i64 x.f1, .int .i64 x.f2, .string x.f3] 41 (0, 0)) := blk_below (blk_new wr _) hb2; have hy0 := (blk_cell hbx2 0).trans (show _ = some (Value.int .i64 x.f0) from rfl); have hy1 := (blk_cell hbx2 1).trans (show _ = some (Value.int .i64 x.f1) from rfl); have hy2 := (blk_cell hbx2 2).trans (show _ = some (Value.int .i64 x.f2) from rfl); have hy3 := (blk_cell hbx2 3).trans (show _ = some (Value.string x.f3) from rfl); have HBX2 := Lib.hid hbx2; have H2 := Lib.hid (HL.out.below (below_step (below_alloc (Below.refl wr.heap.size wr) _) hb2)); clear hb2 hbx2) | (go_at_call 46; refine (HVA.out _).mono ?_; rw [HVL.out]; rintro e w3 ⟨rfl, hb3⟩; have hbx3 := blk_below HBX2.out hb3; have hz0 := (blk_cell hbx3 0).trans (show _ = some (Value.int .i64 x.f0) from rfl); have hz1 := (blk_cell hbx3 1).trans (show _ = some (Value.int .i64 x.f1) from rfl); have hz2 := (blk_cell hbx3 2).trans (show _ = some (Value.int .i64 x.f2) from rfl); have hz3 := (blk_cell hbx3 3).trans (show _ = some (Value.string x.f3) from rfl); have HBX3 := Lib.hid hbx3; have H3 := Lib.hid (H2.out.below hb3); clear hb3 hbx3) | (go_at_call 47; refine (right_none H3.out.cr H3.out.inv HLT.out HL2.out HL3.out x HNM.out HRT.out).mono ?_; rintro e w4 ⟨rfl, hb4⟩; have HB4 := Lib.hid hb4; clear hb4))
     first | go_ret | go_ret2 | go_ret3
     exact ⟨congrArg (fun z => Ending.returned (Value.int .i64 z)) HR1.out.symm, HB4.out⟩
    | some s' =>
     rw [hrt] at hres
     have hres : nodesC nn (D.drop (i + 1)) (i + 1) (openC s' i x) = R := hres
     have HRS := Lib.hid hres
     have HRT := Lib.hid hrt
     have HI' := Lib.hid (right_inv HL.out.inv hrt)
     have hrange : -9223372036854775808 ≤ x.f1 ∧ x.f1 ≤ 9223372036854775807 := by
      unfold namedP at nm
      split at nm
      ·simp at nm; omega
      ·simp at nm; omega
     have HKEY := Lib.hid (keyI x.f1 hrange.1 hrange.2)
     have HKS := Lib.hid (show i < maxLen from by unfold maxLen; omega)
     clear hres nm vl hrt hrange
     by_cases k1 : x.f0 = 1
     ·have d1 : (x.f0 == 1) = true := by rw [k1]; rfl
      have HK1 := Lib.hid k1
      clear k1
      go_wp2_with (first | (go_at_call 45; refine (named_c (HL.out.cr.below (zz8)) (by have := HL3.out; omega) x).mono ?_; rw [HNM.out]; rintro e w2 ⟨rfl, hb2⟩; have hbx2 : w2.heap[wr.heap.size]? = some (.cells #[.int .i64 x.f0, .int .i64 x.f1, .int .i64 x.f2, .string x.f3] 41 (0, 0)) := blk_below (blk_new wr _) hb2; have hy0 := (blk_cell hbx2 0).trans (show _ = some (Value.int .i64 x.f0) from rfl); have hy1 := (blk_cell hbx2 1).trans (show _ = some (Value.int .i64 x.f1) from rfl); have hy2 := (blk_cell hbx2 2).trans (show _ = some (Value.int .i64 x.f2) from rfl); have hy3 := (blk_cell hbx2 3).trans (show _ = some (Value.string x.f3) from rfl); have HBX2 := Lib.hid hbx2; have H2 := Lib.hid (HL.out.below (below_step (below_alloc (Below.refl wr.heap.size wr) _) hb2)); clear hb2 hbx2) | (go_at_call 46; refine (HVA.out _).mono ?_; rw [HVL.out]; rintro e w3 ⟨rfl, hb3⟩; have hbx3 := blk_below HBX2.out hb3; have hz0 := (blk_cell hbx3 0).trans (show _ = some (Value.int .i64 x.f0) from rfl); have hz1 := (blk_cell hbx3 1).trans (show _ = some (Value.int .i64 x.f1) from rfl); have hz2 := (blk_cell hbx3 2).trans (show _ = some (Value.int .i64 x.f2) from rfl); have hz3 := (blk_cell hbx3 3).trans (show _ = some (Value.string x.f3) from rfl); have HBX3 := Lib.hid hbx3; have H3 := Lib.hid (H2.out.below hb3); clear hb3 hbx3) | (go_at_call 47; refine (right_some H3.out.cr H3.out.inv HLT.out HL2.out HL3.out x HNM.out HRT.out).mono ?_; rintro e w4 ⟨rfl, hfrm, vO4, hcr⟩; obtain ⟨A4, c4, rfl, -, -⟩ := Kd.R_reads hcr.ro; obtain ⟨hbx4, hus4, htr4⟩ := frm_facts H3.out HBX3.out hfrm (blk_lt HL.out.cr.blk) (blk_lt HL.out.cr.bm) (blk_lt HL.out.cr.bt); obtain ⟨w5, hrun5, ho5, hg5⟩ := World.ownsMap.update (w := w4) hus4 KI Tryz.underlying80 HKS.out HKEY.out (plainElem_bool Tryz.underlying4 true); have hcr5 := hcr.keepu hg5 hus4 H3.out.un H3.out.uw; have hput : w5.ownsMap Tryz.prog 3 RB u (i + 1) (keysI ((D.take (i + 1)).map (·.f1))) := (by rw [HTK.out]; unfold keysI; rw [List.map_append, List.map_singleton, setOf_snoc]; exact ho5); have hbx5 := blk_grown hbx4 hg5 (fun e => by injection e with e; exact owns_ne hus4 hbx4 e.symm); have htr5 := blk_grown htr4 hg5 (fun e => by injection e with e; exact owns_ne hus4 htr4 e.symm); have ha0 := (blk_cell hbx4 0).trans (show _ = some (Value.int .i64 x.f0) from rfl); have ha1 := (blk_cell hbx4 1).trans (show _ = some (Value.int .i64 x.f1) from rfl); have hb0 := (blk_cell hbx5 0).trans (show _ = some (Value.int .i64 x.f0) from rfl); have hq2 := hcr5.c2; have hqa : ∀ o : Obj, (w5.alloc o).cell? ⟨g, 2, none⟩ = _ := fun o => (hcr5.alloc o).c2; have HUN := Lib.hid H3.out.un; have HUW := Lib.hid H3.out.uw; have HTW := Lib.hid H3.out.tw; have HC5 := Lib.hid hcr5; have HO5 := Lib.hid hput; have HT5 := Lib.hid htr5; clear hcr hcr5 hput htr5 htr4 hbx4 hbx5 hus4 hfrm ho5 hg5) | (at_builtin; refine Cr.list (w0 := w) (g := g) (s := s') HC5.out (by have := HI'.out.2.1; have := HL2.out; omega) (i : Int) (.tmp 70) (.tmp 72) (by rfl) (by rfl) (by rfl) (by first | rfl | exact congrArg (fun n => Value.slice (some ⟨n, 0, none⟩) 1 1) (by simp)) (by rfl) ?_; intro A6 c6 w6 hcr6 hd6 he6 hg6; have hb6 := blk_grown HC5.out.blk hg6 (Kd.R_ne HC5.out.ro HC5.out.blk (by decide)); have hm6 := (blk_cell hb6 4); have hz5 := (blk_cell hb6 5).trans rfl; have hz5' := hcr6.c5; have hfa : ∀ o : Obj, ((w6.setCell ⟨g, 2, none⟩ (.slice A6 (s'.op.length + 1) c6)).alloc o).frozen? ⟨ab, i, none⟩ = false := fun o => (hcr6.alloc o).fa i; have hca : ∀ o : Obj, ((w6.setCell ⟨g, 2, none⟩ (.slice A6 (s'.op.length + 1) c6)).alloc o).cell? ⟨ab, i, none⟩ = _ := fun o => (hcr6.alloc o).ca i HLT.out; have HC6 := Lib.hid hcr6; have HG6 := Lib.hid hg6; clear hcr6 hg6 hb6 hm6))
      go_roundw
      case rel =>
       have hsz : (w6.setCell ⟨g, 2, none⟩ (.slice A6 (s'.op.length + 1) c6)).heap.size = w6.heap.size := by simp
       have h := lp_open HC5.out HO5.out HUN.out HUW.out HT5.out HTW.out HI'.out HRS.out HK1.out HG6.out HC6.out
       rw [hsz] at h
       exact ⟨i + 1, by omega, by first | rfl | go_num, _, _, _, Lib.hid h⟩
      case measure => simp [intOf]; omega
     ·have d1 := beqI_f k1
      have HK1 := Lib.hid k1
      clear k1
      go_wp2_with (first | (go_at_call 45; refine (named_c (HL.out.cr.below (zz8)) (by have := HL3.out; omega) x).mono ?_; rw [HNM.out]; rintro e w2 ⟨rfl, hb2⟩; have hbx2 : w2.heap[wr.heap.size]? = some (.cells #[.int .i64 x.f0, .int .i64 x.f1, .int .i64 x.f2, .string x.f3] 41 (0, 0)) := blk_below (blk_new wr _) hb2; have hy0 := (blk_cell hbx2 0).trans (show _ = some (Value.int .i64 x.f0) from rfl); have hy1 := (blk_cell hbx2 1).trans (show _ = some (Value.int .i64 x.f1) from rfl); have hy2 := (blk_cell hbx2 2).trans (show _ = some (Value.int .i64 x.f2) from rfl); have hy3 := (blk_cell hbx2 3).trans (show _ = some (Value.string x.f3) from rfl); have HBX2 := Lib.hid hbx2; have H2 := Lib.hid (HL.out.below (below_step (below_alloc (Below.refl wr.heap.size wr) _) hb2)); clear hb2 hbx2) | (go_at_call 46; refine (HVA.out _).mono ?_; rw [HVL.out]; rintro e w3 ⟨rfl, hb3⟩; have hbx3 := blk_below HBX2.out hb3; have hz0 := (blk_cell hbx3 0).trans (show _ = some (Value.int .i64 x.f0) from rfl); have hz1 := (blk_cell hbx3 1).trans (show _ = some (Value.int .i64 x.f1) from rfl); have hz2 := (blk_cell hbx3 2).trans (show _ = some (Value.int .i64 x.f2) from rfl); have hz3 := (blk_cell hbx3 3).trans (show _ = some (Value.string x.f3) from rfl); have HBX3 := Lib.hid hbx3; have H3 := Lib.hid (H2.out.below hb3); clear hb3 hbx3) | (go_at_call 47; refine (right_some H3.out.cr H3.out.inv HLT.out HL2.out HL3.out x HNM.out HRT.out).mono ?_; rintro e w4 ⟨rfl, hfrm, vO4, hcr⟩; obtain ⟨A4, c4, rfl, -, -⟩ := Kd.R_reads hcr.ro; obtain ⟨hbx4, hus4, htr4⟩ := frm_facts H3.out HBX3.out hfrm (blk_lt HL.out.cr.blk) (blk_lt HL.out.cr.bm) (blk_lt HL.out.cr.bt); obtain ⟨w5, hrun5, ho5, hg5⟩ := World.ownsMap.update (w := w4) hus4 KI Tryz.underlying80 HKS.out HKEY.out (plainElem_bool Tryz.underlying4 true); have hcr5 := hcr.keepu hg5 hus4 H3.out.un H3.out.uw; have hput : w5.ownsMap Tryz.prog 3 RB u (i + 1) (keysI ((D.take (i + 1)).map (·.f1))) := (by rw [HTK.out]; unfold keysI; rw [List.map_append, List.map_singleton, setOf_snoc]; exact ho5); have hbx5 := blk_grown hbx4 hg5 (fun e => by injection e with e; exact owns_ne hus4 hbx4 e.symm); have htr5 := blk_grown htr4 hg5 (fun e => by injection e with e; exact owns_ne hus4 htr4 e.symm); have ha0 := (blk_cell hbx4 0).trans (show _ = some (Value.int .i64 x.f0) from rfl); have ha1 := (blk_cell hbx4 1).trans (show _ = some (Value.int .i64 x.f1) from rfl); have hb0 := (blk_cell hbx5 0).trans (show _ = some (Value.int .i64 x.f0) from rfl); have hq2 := hcr5.c2; have hqa : ∀ o : Obj, (w5.alloc o).cell? ⟨g, 2, none⟩ = _ := fun o => (hcr5.alloc o).c2; have HUN := Lib.hid H3.out.un; have HUW := Lib.hid H3.out.uw; have HTW := Lib.hid H3.out.tw; have HC5 := Lib.hid hcr5; have HO5 := Lib.hid hput; have HT5 := Lib.hid htr5; clear hcr hcr5 hput htr5 htr4 hbx4 hbx5 hus4 hfrm ho5 hg5))
      go_roundw
      case rel => exact ⟨i + 1, by omega, by first | rfl | go_num, _, _, _, Lib.hid (lp_done HC5.out HO5.out HUN.out HUW.out HT5.out HTW.out HI'.out HRS.out HK1.out)⟩
      case measure => simp [intOf]; omega
   ·have hin : i = n := by omega
    subst hin
    have p1 : ((i : Int) < (i : Int)) = False := eq_false (by omega)
    have hres := HL.out.res
    rw [List.drop_eq_nil_of_le (by omega)] at hres
    have hV := HV1.out (by rw [← hres]; exact fun h => by cases h)
    have HV := Lib.hid hV
    have htr := HL.out.tre
    have ht0 := (blk_cell htr 0).trans (show _ = some (Value.slice AN nn cN) from rfl)
    clear hres hV htr
    go_wp2
    go_loopw [87] (fun t wr2 => ∃ k : Nat, k ≤ nn ∧ t = .int .i64 k ∧ goodAll N D k = true ∧ Hid (Lp w wr2 B mb tb ab g u i nn (.slice AN nn cN) (.slice AD i cD) D R i s f vO)) (fun t wr2 => nn - (intOf t).toNat)
    case atStart => exact ⟨0, Nat.zero_le _, rfl, rfl, HL⟩
    case round =>
     clear HL ht0
     obtain ⟨k, hk, rfl, hgd, HK⟩ := hrel
     have htr := HK.out.tre
     by_cases hkn : k < nn
     ·have hC := Kd.C_below HN.out HK.out.cr.bel
      obtain ⟨ad, hA, hre⟩ := Kd.at_string hC (k : Int) (by omega) (by omega)
      subst hA
      have hre := hre
      obtain ⟨S, hS⟩ : ∃ S : ByteArray, N.getD k ⟨#[]⟩ = S := ⟨_, rfl⟩
      rw [show rdOf ByteArray.empty N (k : Int) = S from by rw [← hS]; unfold rdOf; rw [Int.toNat_natCast]; rfl, Int.toNat_natCast] at hre
      have hkl : k < N.length := by omega
      have hSs : S.size ≤ 4294967280 := HNS.out S (by rw [← hS, List.getD_eq_getElem?_getD, List.getElem?_eq_getElem hkl]; exact List.getElem_mem hkl)
      obtain ⟨r2, hr2⟩ : ∃ r2, (if S.data.toList = [] then false else nameEndP S.data.toList 0 == (S.size : Int)) = r2 := ⟨_, rfl⟩
      have hNa : ∀ W, Calls Tryz.prog 48 #[.string S] W fun e w' => e = .returned (.bool r2) ∧ Below W.heap.size W w' := fun W => chars_Name.calls S _ W (by rw [name_f S (by omega), hr2])
      obtain ⟨r1, hr1⟩ : ∃ r1, decide ((k : Int) ∈ D.map (·.f1)) = r1 := ⟨_, rfl⟩
      have hus := HK.out.us
      rw [List.take_of_length_le (show D.length ≤ i by omega)] at hus
      obtain ⟨vt, ps, hlook, hvt⟩ := World.ownsMap.lookup hus KI Tryz.underlying80 (Tryz.zeroValue4 _) (plainElem_bool Tryz.underlying4 false) (keyI (k : Int) (by omega) (by omega))
      obtain ⟨bt, rfl, hbt⟩ := plain_bool_inv hvt
      have hbt2 := (at_keysI (k : Int) false _ (D.map (·.f1)) rfl).symm.trans hbt
      have hbr : bt = r1 := by
       by_cases c : (k : Int) ∈ D.map (·.f1)
       ·rw [if_pos c] at hbt2
        rw [← hr1, decide_eq_true c]; exact lit_inj hbt2
       ·rw [if_neg c] at hbt2
        rw [← hr1, decide_eq_false c]; exact lit_inj hbt2
      subst hbr
      have ht0 := (blk_cell htr 0).trans (show _ = some (Value.slice (some ad) nn cN) from rfl)
      have q0 : ((0 : Int) ≤ (k : Int)) = True := eq_true (by omega)
      have q1 : ((k : Int) < (nn : Int)) = True := eq_true (by omega)
      have e1 : IntKind.i64.wrap ((k : Int) + 1) = ((k + 1 : Nat) : Int) := zz28
      have HNA := Lib.hid hNa
      have HKN := Lib.hid hkn
      have HGD := Lib.hid hgd
      have HKL := Lib.hid hkl
      have HR1 := Lib.hid hr1
      have HR2 := Lib.hid hr2
      have HS := Lib.hid hS
      clear hC htr hSs hr2 hNa hr1 hus hvt hbt hbt2 hgd hkl hS
      cases bt with
      | false =>
       have hV0 : V = 1 := by rw [HV.out, if_neg (goodAll_bad HKL.out (by rw [goodN_of HS.out HR1.out HR2.out rfl]; rfl))]
       have HVV := Lib.hid hV0
       have HBL := Lib.hid HK.out.cr.bel
       clear hV0
       go_wp2
       first | go_ret | go_ret2 | go_ret3
       exact ⟨congrArg (fun z => Ending.returned (Value.int .i64 z)) HVV.out.symm, HBL.out⟩
      | true =>
      cases r2 with
      | false =>
       have hV0 : V = 1 := by rw [HV.out, if_neg (goodAll_bad HKL.out (by rw [goodN_of HS.out HR1.out HR2.out rfl]; rfl))]
       have HVV := Lib.hid hV0
       have HPB := Lib.hid (show ∀ W : World, Below w.heap.size w W → True from fun _ _ => trivial)
       clear hV0
       go_wp2_with (go_at_call 48; refine (HNA.out _).mono ?_; rintro e w2 ⟨rfl, hb2⟩; have H2 := Lib.hid (HK.out.below hb2); have ht2 := (blk_cell H2.out.tre 0).trans (show _ = some (Value.slice (some ad) nn cN) from rfl); have hpp := HPB.out w2 H2.out.cr.bel; clear hb2)
       first | go_ret | go_ret2 | go_ret3
       exact ⟨congrArg (fun z => Ending.returned (Value.int .i64 z)) HVV.out.symm, H2.out.cr.bel⟩
      | true =>
      by_cases k0 : k = 0
      ·have HGS := Lib.hid (goodAll_step HGD.out (by rw [goodN_of HS.out HR1.out HR2.out rfl, decide_eq_true k0]; rfl))
       have q2 : ((0 : Int) < (k : Int)) = False := eq_false (by omega)
       have q5 : decide ((0 : Int) < (k : Int)) = false := decide_eq_false (by omega)
       have q6 : (0 < k) = False := eq_false (by omega)
       have HPB := Lib.hid (show ∀ W : World, Below w.heap.size w W → True from fun _ _ => trivial)
       clear k0
       go_wp2_with (go_at_call 48; refine (HNA.out _).mono ?_; rintro e w2 ⟨rfl, hb2⟩; have H2 := Lib.hid (HK.out.below hb2); have ht2 := (blk_cell H2.out.tre 0).trans (show _ = some (Value.slice (some ad) nn cN) from rfl); have hpp := HPB.out w2 H2.out.cr.bel; clear hb2)
       go_roundw
       case rel => exact ⟨k + 1, by omega, by first | rfl | go_num, HGS.out, H2⟩
       case measure => simp [intOf]; omega
      ·have q2 : ((0 : Int) < (k : Int)) = True := eq_true (by omega)
       have q6 : (0 < k) = True := eq_true (by omega)
       have e2 : IntKind.i64.wrap ((k : Int) - 1) = ((k - 1 : Nat) : Int) := zz28
       have q3 : ((0 : Int) ≤ ((k - 1 : Nat) : Int)) = True := eq_true (by omega)
       have q4 : (((k - 1 : Nat) : Int) < (nn : Int)) = True := eq_true (by omega)
       obtain ⟨T, hT⟩ : ∃ T : ByteArray, N.getD (k - 1) ⟨#[]⟩ = T := ⟨_, rfl⟩
       have hpb : ∀ W, Below w.heap.size w W → W.cell? (ad.add (k - 1)) = some (.string T) := by
        intro W hW
        obtain ⟨ad2, hA2, hre2⟩ := Kd.at_string (Kd.C_below HN.out hW) ((k - 1 : Nat) : Int) (by omega) (by omega)
        injection hA2 with hA2
        subst hA2
        rw [show rdOf ByteArray.empty N ((k - 1 : Nat) : Int) = T from by rw [← hT]; unfold rdOf; rw [Int.toNat_natCast]; rfl, Int.toNat_natCast] at hre2
        exact hre2
       have HPB := Lib.hid hpb
       obtain ⟨r3, hr3⟩ : ∃ r3, Op.bytesLess T.toList S.toList = r3 := ⟨_, rfl⟩
       have h3 : (decide (k = 0) || decide ((N.getD (k - 1) ⟨#[]⟩).data.toList < S.data.toList)) = r3 := by
        rw [decide_eq_false k0, Bool.false_or, hT, ← hr3, Go.Proofs.bytesLess_eq, Lib.toList_data, Lib.toList_data]
       have H3 := Lib.hid h3
       clear hpb h3 hT k0
       cases r3 with
       | false =>
        have hV0 : V = 1 := by rw [HV.out, if_neg (goodAll_bad HKL.out (by rw [goodN_of HS.out HR1.out HR2.out H3.out]; rfl))]
        have HVV := Lib.hid hV0
        clear hV0
        go_wp2_with (go_at_call 48; refine (HNA.out _).mono ?_; rintro e w2 ⟨rfl, hb2⟩; have H2 := Lib.hid (HK.out.below hb2); have ht2 := (blk_cell H2.out.tre 0).trans (show _ = some (Value.slice (some ad) nn cN) from rfl); have hpp := HPB.out w2 H2.out.cr.bel; clear hb2)
        first | go_ret | go_ret2 | go_ret3
        exact ⟨congrArg (fun z => Ending.returned (Value.int .i64 z)) HVV.out.symm, H2.out.cr.bel⟩
       | true =>
        have HGS := Lib.hid (goodAll_step HGD.out (by rw [goodN_of HS.out HR1.out HR2.out H3.out]; rfl))
        go_wp2_with (go_at_call 48; refine (HNA.out _).mono ?_; rintro e w2 ⟨rfl, hb2⟩; have H2 := Lib.hid (HK.out.below hb2); have ht2 := (blk_cell H2.out.tre 0).trans (show _ = some (Value.slice (some ad) nn cN) from rfl); have hpp := HPB.out w2 H2.out.cr.bel; clear hb2)
        go_roundw
        case rel => exact ⟨k + 1, by omega, by first | rfl | go_num, HGS.out, H2⟩
        case measure => simp [intOf]; omega
     ·have hkn2 : k = nn := by omega
      subst hkn2
      have hall : namesC N D = true := by
       have := hgd
       rw [← hnn] at this
       exact this
      have hV0 : V = 0 := by rw [HV.out, if_pos hall]
      have HVV := Lib.hid hV0
      have p1 : ((k : Int) < (k : Int)) = False := eq_false (by omega)
      have HBL := Lib.hid HK.out.cr.bel
      clear htr hV0 hall hgd
      go_wp2
      first | go_ret | go_ret2 | go_ret3
      exact ⟨congrArg (fun z => Ending.returned (Value.int .i64 z)) HVV.out.symm, HBL.out⟩
set_option maxHeartbeats 4000000 in
set_option maxRecDepth 100000 in
theorem check_out {w : World} {AN AD : Option Addr} {cN cD n nn : Nat} (h : n = 0 ∨ 5000 < n ∨ 1000 < nn) :
 Calls Tryz.prog 19 #[.agg #[.slice AN nn cN, .slice AD n cD]] w fun e w' => e = .returned (.int .i64 1) ∧ Below w.heap.size w w' := by
 have HB := Lib.hid (below_alloc (Below.refl w.heap.size w) (.cells #[.slice AN nn cN, .slice AD n cD] 27))
 by_cases h0 : n = 0
 ·subst h0
  go_enter Tryz.func19, Tryz.ntmps19
  go_wp2
  first | go_ret | go_ret2 | go_ret3
  exact ⟨rfl, HB.out⟩
 ·have p0 : ((n : Int) == 0) = false := beqI_f (by omega)
  by_cases h1 : 5000 < n
  ·have p1 : ((5000 : Int) < (n : Int)) = True := eq_true (by omega)
   go_enter Tryz.func19, Tryz.ntmps19
   go_wp2
   first | go_ret | go_ret2 | go_ret3
   exact ⟨rfl, HB.out⟩
  ·have p1 : ((5000 : Int) < (n : Int)) = False := eq_false (by omega)
   have p2 : ((1000 : Int) < (nn : Int)) = True := eq_true (by omega)
   clear h
   go_enter Tryz.func19, Tryz.ntmps19
   go_wp2
   first | go_ret | go_ret2 | go_ret3
   exact ⟨rfl, HB.out⟩
theorem check_all {w : World} {AN AD : Option Addr} {cN cD : Nat} {N : List ByteArray} {D : List Nod} (hN : Kd.C Kd.string w AN N.length N) (hD : Kd.C k41 w AD D.length D) (hDs : ∀ x, x ∈ D → x.f3.size ≤ 4294967280) (hNs : ∀ x, x ∈ N → x.size ≤ 4294967280) :
 Calls Tryz.prog 19 #[.agg #[.slice AN N.length cN, .slice AD D.length cD]] w fun e w' => e = .returned (.int .i64 (checkV N D)) ∧ Below w.heap.size w w' := by
 unfold checkV
 by_cases h : D.length = 0 ∨ 5000 < D.length ∨ 1000 < N.length
 ·rw [if_pos h]; exact check_out h
 ·rw [if_neg h]
  refine check_c hN hD (by omega) (by omega) (by omega) hDs hNs _ ?_ ?_
  ·intro e; rw [if_pos (by rw [e]; rfl)]
  ·intro e
   rw [if_neg]
   intro c
   cases hh : nodesC N.length D 0 (zeroC D.length) with
   | none => exact e hh
   | some z => rw [hh] at c; cases c
end Go.Proofs.YtlhhhlimjajnlaaGreat.X
end
