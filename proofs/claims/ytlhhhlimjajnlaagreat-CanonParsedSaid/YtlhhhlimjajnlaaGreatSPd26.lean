/- Parts of the proof of canonParsed_holds, kept and merged by a program of mine (wip/tools/slim.py) out of my texts: CanO -/
import Derived.Test.YtlhhhlimjajnlaaGreatSPd25
import Derived.Test.YtlhhhlimjajnlaaGreatSPd9
section
set_option linter.unusedVariables false
set_option linter.unusedSimpArgs false
namespace Go.Proofs.YtlhhhlimjajnlaaGreat.X
open Go.RowKit Go.Maps Go.Proofs.YtlhhhlimjajnlaaGreat Go.Proofs.YtlhhhlimjajnlaaGreat.Q Go.Proofs.YtlhhhlimjajnlaaGreatW.PrintWords Go.Proofs.YtlhhhlimjajnlaaGreatW.PrintLast Go.Proofs.YtlhhhlimjajnlaaGreatW.PrintMore
attribute [local go_sem] max2_int min2_int max_two min_two   
theorem nodesC_named (nn : Nat) : ∀ (l : List Nod) (i : Nat) (s : CS), nodesC nn l i s ≠ none → ∀ x, x ∈ l → namedP nn x = true
 | [], _, _, _, x, hx => by cases hx
 | y :: r, i, s, h, x, hx => by
  unfold nodesC at h
  cases hs : stepC nn s i y with
  | none => rw [hs] at h; exact absurd rfl h
  | some s' =>
   rw [hs] at h
   rcases List.mem_cons.1 hx with rfl | hx
   ·unfold stepC at hs
    split at hs
    ·rename_i hc; exact hc.1
    ·cases hs
   ·exact nodesC_named nn r (i + 1) s' h x hx
theorem check_named {N : List ByteArray} {D : List Nod} (h : checkV N D = 0) : D.length ≤ 5000 ∧ N.length ≤ 1000 ∧ ∀ x, x ∈ D → namedP N.length x = true := by
 unfold checkV at h
 split at h
 ·cases h
 ·rename_i h0
  split at h
  ·cases h
  ·rename_i h1
   refine ⟨by omega, by omega, nodesC_named _ D 0 (zeroC D.length) ?_⟩
   intro e
   rw [e] at h1
   exact h1 rfl
theorem named_kind {nn : Nat} {x : Nod} (h : namedP nn x = true) : (x.f0 ≠ 3 → 0 ≤ x.f1 ∧ x.f1 < nn) ∧ (x.f0 = 1 ∨ x.f0 = 2 ∨ x.f0 = 3) := by
 unfold namedP at h
 split at h
 ·rename_i e; exact ⟨fun c => absurd e c, .inr (.inr e)⟩
 ·rw [Bool.and_eq_true, Bool.and_eq_true, decide_eq_true_eq, decide_eq_true_eq, Bool.or_eq_true, decide_eq_true_eq, Bool.and_eq_true, decide_eq_true_eq] at h
  refine ⟨fun _ => h.1, ?_⟩
  rcases h.2 with h | h
  ·exact .inr (.inl h)
  ·exact .inl h.1
theorem okN_of {N : List ByteArray} {D : List Nod} (h : checkV N D = 0) (h1 : ∀ x, x ∈ N → x.size ≤ 1000000000) (h2 : ∀ x, x ∈ D → x.f3.size ≤ 1000000000) : okN N D :=
 ⟨h1, h2, fun x hx hc => (named_kind ((check_named h).2.2 x hx)).1 hc⟩
structure WInv (D : List Nod) (i : Nat) (s : WS) : Prop where
 ok : okO D s
 len : s.out.length + 1100000000 * s.op.length ≤ 9000000000 * i
 op : s.op.length ≤ i
theorem closeW_inv {N : List ByteArray} {D : List Nod} (h : okN N D) (p : Int) {i : Nat} : ∀ (k : Nat) (s : WS), WInv D i s → WInv D i (closeW N D p k s)
 | 0, s, hs => hs
 | k + 1, s, hs => by
  unfold closeW
  split
  ·exact hs
  ·rename_i hc
   have hne : s.op ≠ [] := fun e => hc (.inl e)
   refine closeW_inv h p k _ ⟨popW_ok hs.ok, Nat.le_trans (popW_len h hs.ok hne) hs.len, ?_⟩
   rw [popW_op, List.length_dropLast]
   have := hs.op; omega
theorem escL_size {x : ByteArray} (h : x.size ≤ 1000000000) : (escL x.data.toList).length ≤ 6000000000 := by
 have := escL_len x.data.toList
 rw [Lib.size_eq] at h
 omega
theorem name_size {N : List ByteArray} {D : List Nod} (h : okN N D) {x : Nod} (hx : x ∈ D) (hk : x.f0 ≠ 3) : (N.getD x.f1.toNat ⟨#[]⟩).data.toList.length ≤ 1000000000 := by
 have hn := h.2.2 x hx hk
 have := h.1 _ (getD_memN (k := x.f1.toNat) (by omega))
 rw [Lib.size_eq] at this
 exact this
theorem nodeW_inv {N : List ByteArray} {D : List Nod} (h : okN N D) {i : Nat} {x : Nod} (hi : i < D.length) (hx : D.getD i xz = x) {s : WS} (hs : WInv D i s) : WInv D (i + 1) (nodeW N D i x s) := by
 have hm : x ∈ D := by rw [← hx]; exact getD_memD hi
 have hc := closeW_inv h x.f2 s.op.length s hs
 have he := escL_size (h.2.1 x hm)
 unfold nodeW
 simp only
 generalize closeW N D x.f2 s.op.length s = c at hc
 by_cases k2 : x.f0 = 2
 ·rw [if_pos k2]
  have hn := name_size h hm (by omega)
  refine ⟨hc.ok, ?_, Nat.le_succ_of_le hc.op⟩
  have := hc.len
  simp only [List.length_append, List.length_cons, List.length_nil]
  omega
 ·rw [if_neg k2]
  have hr := readyW_len c
  by_cases k3 : x.f0 = 3
  ·rw [if_pos k3]
   refine ⟨hc.ok, ?_, Nat.le_succ_of_le hc.op⟩
   have := hc.len
   have e : (readyW c).op = c.op := rfl
   simp only [List.length_append, e]
   omega
  ·rw [if_neg k3]
   have hn := name_size h hm k3
   have := hc.len
   have hop := hc.op
   have e : (readyW c).op = c.op := rfl
   refine ⟨?_, ?_, ?_⟩
   ·intro j hj
    rcases List.mem_append.1 hj with hj | hj
    ·exact hc.ok j hj
    ·rw [List.mem_singleton] at hj
     subst hj
     refine ⟨by omega, by omega, ?_⟩
     rw [Int.toNat_natCast, hx]; exact k3
   ·simp only [List.length_append, List.length_cons, List.length_nil, e]
    omega
   ·simp only [List.length_append, List.length_cons, List.length_nil, e]
    omega
section
variable {w0 W W1 W2 : World} {b pb gb ob rb tr : Nat} {vN vD vO u : Value} {s : WS} {ops : Array Oper} {o : Oper} {a : Act} {Q : Exit → Act → World → Prop}
theorem isB_grown {B : Nat} {out : List UInt8} (h : IsB B b out W) {v : Value} {l : List Int} {ok : Nat → Prop} (hr : Kd.R (Kd.int .i64) 3 W B ok v l) (hg : W.grownBy W1 v.ownBlock) : IsB B b out W1 := by
 have key : ∀ {q : Value} {bs : List Value}, Lib.BuilderAt 65 5 B b q bs W → Lib.BuilderAt 65 5 B b q bs W1 := by
  intro q bs h
  obtain ⟨a1, u, a2, a3, a4⟩ := h
  refine ⟨a1, u, blk_grown a2 hg (Kd.R_ne hr a2 (by decide)), ⟨a3.1, ?_⟩, a4⟩
  rcases a3.2 with h5 | ⟨k, cap, cur, e1, e2, e3, e4⟩
  ·exact .inl h5
  ·exact .inr ⟨k, cap, cur, e1, e2, blk_grown e3 hg (Kd.R_ne hr e3 (by decide)), e4⟩
 rcases h with h | h
 ·exact .inl (key h)
 ·exact .inr (key h)
theorem Ww.app (h : Ww w0 W b pb gb ob rb tr vN vD vO s) (hg : W.grownBy W1 vO.ownBlock) {l : List Int} (ho : Kd.R (Kd.int .i64) 3 W1 w0.heap.size (fun _ => True) u l) (hb : Below w0.heap.size w0 W1) : Ww w0 (W1.setCell ⟨ob, 0, none⟩ u) b pb gb ob rb tr vN vD u { s with op := l } := by
 have kp : ∀ {q t : Nat} {y : Array Value}, W.heap[q]? = some (.cells y t (0, 0)) → 3 ≠ t → W1.heap[q]? = some (.cells y t (0, 0)) := fun hq ht => blk_grown hq hg (Kd.R_ne h.ro hq ht)
 have ne : ∀ {q t : Nat} {y : Array Value}, W.heap[q]? = some (.cells y t (0, 0)) → t ≠ 47 → q ≠ ob := fun {q t y} hq ht e => by
  have h2 := h.oc
  rw [← e, hq] at h2
  injection h2 with h2
  injection h2 with _ h2
  exact ht h2
 have hob := kp h.oc (by decide)
 exact ⟨isB_set (isB_grown h.bd h.ro hg) hob (by decide) (by decide) _ _, blk_far (kp h.pc (by decide)) (ne h.pc (by decide)) _, blk_far (kp h.gc (by decide)) (ne h.gc (by decide)) _, blk_set hob 0 _, blk_far (kp h.rc (by decide)) (ne h.rc (by decide)) _, blk_far (kp h.tc (by decide)) (ne h.tc (by decide)) _, R_away_set ho rfl (Kd.R_ne ho hob (by decide)) 0 _, h.ggb, h.gob, hb.setCell h.gob _⟩
theorem Ww.list {rest : List Oper} (h : Ww w0 W b pb gb ob rb tr vN vD vO s) (hl : s.op.length ≤ 1000000) (x : Int) (p y : Operand) (hgd : o.guard = none)
 (ho : o.op = .call { callee := .builtin .append, args := #[p, y], argTypes := #[47, 47] }) (hs : a.eval p = vO) (hx : a.eval y = .slice (some ⟨W.heap.size, 0, none⟩) 1 1)
 (hW : W2 = W.alloc (.cells #[.int .i64 x] 3))
 (K : ∀ A1 c1 w1, Ww w0 (w1.setCell ⟨ob, 0, none⟩ (.slice A1 (s.op.length + 1) c1)) b pb gb ob rb tr vN vD (.slice A1 (s.op.length + 1) c1) { s with op := s.op ++ [x] } → w1.cell? ⟨ob, 0, none⟩ = some vO → w1.frozen? ⟨ob, 0, none⟩ = false → wpList Tryz.prog ops Q rest (a.put o.dst (.slice A1 (s.op.length + 1) c1)) w1) :
 wpList Tryz.prog ops Q (o :: rest) a W2 := by
 subst hW
 refine Kd.R_append (Kd.int .i64) (w0 := w0) w0.heap.size hgd p y 47 3 (.int .i64 0) 8 ho Tryz.underlying47 infoInt rfl (by decide) (by omega) vO s.op x [.int .i64 x] (fun _ => True) (fun _ => False) hs hx rfl (fun _ hk => hk.elim) (fun _ _ => trivial) h.ro h.bel h.bel.size (by omega) ?_
 intro u w1 ho1 hb hg hat
 have hB := h.app hg ho1 hb
 have hk1 := blk_grown h.oc hg (Kd.R_ne h.ro h.oc (by decide))
 obtain ⟨A1, c1, rfl, -, -⟩ := Kd.R_reads ho1
 rw [show (s.op ++ [x]).length = s.op.length + 1 from by simp] at hB ⊢
 exact K A1 c1 w1 hB ((blk_cell hk1 0).trans rfl) (blk_frozen hk1 0)
end
end Go.Proofs.YtlhhhlimjajnlaaGreat.X
end
