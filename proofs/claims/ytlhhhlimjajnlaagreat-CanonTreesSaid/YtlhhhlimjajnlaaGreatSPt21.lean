/- Parts of the proof of canonTrees_holds, kept and merged by a program of mine (wip/tools/slim.py) out of my texts: CanF CanH -/
import Derived.Test.YtlhhhlimjajnlaaGreatSPt20
import Derived.Test.YtlhhhlimjajnlaaGreatSPt17
section
set_option linter.unusedVariables false
set_option linter.unusedSimpArgs false
namespace Go.Proofs.YtlhhhlimjajnlaaGreat.X
open Go.RowKit Go.Maps Go.Proofs.YtlhhhlimjajnlaaGreat Go.Proofs.YtlhhhlimjajnlaaGreat.Q Go.Proofs.YtlhhhlimjajnlaaGreatW.PrintWords Go.Proofs.YtlhhhlimjajnlaaGreatW.PrintLast Go.Proofs.YtlhhhlimjajnlaaGreatW.PrintMore
attribute [local go_sem] max2_int min2_int max_two min_two   
theorem info_of {P : Program} {e : TypeId} {z : Value} {s b : Nat} (h : (P.info? e).map (fun i => (i.zero, i.size, i.bytes)) = some (some z, s, b)) : ∃ i, P.info? e = some i ∧ i.zero = some z ∧ i.size = s ∧ i.bytes = b := by
 cases hi : P.info? e with
 | none => rw [hi] at h; cases h
 | some i =>
  rw [hi] at h
  have h := Option.some.inj h
  injection h with h1 h2
  injection h2 with h2 h3
  exact ⟨i, rfl, h1, h2, h3⟩
theorem infoBool : (Tryz.prog.info? 4).map (fun i => (i.zero, i.size, i.bytes)) = some (some (.bool false), 1, 1) := by kernel_rfl
theorem infoMap : (Tryz.prog.info? 80).map (fun i => (i.zero, i.size, i.bytes)) = some (some (.map none), 1, 8) := by kernel_rfl
theorem made_one (v : Value) (n : Nat) : madeCells #[v] n = (List.replicate n v).toArray := by
 unfold madeCells
 apply Array.ext'
 simp only [Array.toList_map, Array.toList_range]
 apply List.ext_getElem?
 intro j
 rw [List.getElem?_map]
 by_cases hj : j < n
 ·rw [List.getElem?_range hj, List.getElem?_replicate, if_pos hj]
  simp [Nat.mod_one]
 ·rw [List.getElem?_eq_none (by rw [List.length_range]; omega), List.getElem?_replicate, if_neg hj]; rfl
theorem make_b (W : World) (n : Nat) (hn : n ≤ 5000) : (Instr.makeSlice 76 (.int .i64 n) (.int .i64 n)).run Tryz.prog W = .ok (.slice (some ⟨W.heap.size, 0, none⟩) n n) (W.alloc (.cells (bcells (List.replicate n false)) 4)) := by
 obtain ⟨i, hi, hz, hs, hb⟩ := info_of infoBool
 have := run_make (P := Tryz.prog) W 76 4 i (.bool false) Tryz.underlying76 hi hz .i64 .i64 n n (by omega) (Int.le_refl _) (by rw [hb]; omega) (by omega)
 rw [hs, Nat.mul_one, Int.toNat_natCast] at this
 have e : madeCells (Value.bool false).cells n = bcells (List.replicate n false) := by
  rw [show (Value.bool false).cells = #[.bool false] from rfl, made_one]
  unfold bcells
  rw [List.map_replicate]
 rw [e] at this
 exact this
theorem make_m (W : World) (n : Nat) (hn : n ≤ 5000) : (Instr.makeSlice 77 (.int .i64 n) (.int .i64 n)).run Tryz.prog W = .ok (.slice (some ⟨W.heap.size, 0, none⟩) n n) (W.alloc (.cells (mcells (fun _ => none) n) 80)) := by
 obtain ⟨i, hi, hz, hs, hb⟩ := info_of infoMap
 have := run_make (P := Tryz.prog) W 77 80 i (.map none) Tryz.underlying77 hi hz .i64 .i64 n n (by omega) (Int.le_refl _) (by rw [hb]; omega) (by omega)
 rw [hs, Nat.mul_one, Int.toNat_natCast] at this
 have e : madeCells (Value.map none).cells n = mcells (fun _ => none) n := by
  rw [show (Value.map none).cells = #[.map none] from rfl, made_one]
  have hl : List.replicate n (Value.map none) = (List.range n).map fun p => Value.map ((fun _ => none : Nat → Option Nat) p) := by
   apply List.ext_getElem?
   intro j
   rw [List.getElem?_map, List.getElem?_replicate]
   by_cases hj : j < n
   ·rw [if_pos hj, List.getElem?_range hj]; rfl
   ·rw [if_neg hj, List.getElem?_eq_none (by rw [List.length_range]; omega)]; rfl
  unfold mcells
  rw [hl]
 rw [e] at this
 exact this
end Go.Proofs.YtlhhhlimjajnlaaGreat.X
end
section
set_option linter.unusedVariables false
set_option linter.unusedSimpArgs false
namespace Go.Proofs.YtlhhhlimjajnlaaGreat.X
open Go.RowKit Go.Maps Go.Proofs.YtlhhhlimjajnlaaGreat Go.Proofs.YtlhhhlimjajnlaaGreat.Q Go.Proofs.YtlhhhlimjajnlaaGreatW.PrintWords Go.Proofs.YtlhhhlimjajnlaaGreatW.PrintLast Go.Proofs.YtlhhhlimjajnlaaGreatW.PrintMore
attribute [local go_sem] max2_int min2_int max_two min_two   
theorem owns_eq {W W1 : World} {b cnt : Nat} {D : DataW Unit} (h : W.ownsMap Tryz.prog 3 RB b cnt D) (he : W1.heap[b]? = W.heap[b]?) : W1.ownsMap Tryz.prog 3 RB b cnt D := by
 obtain ⟨es, clock, hb, hr⟩ := h
 exact ⟨es, clock, he.trans hb, hr⟩
section
variable {w0 W W1 : World} {g mb tb ab n : Nat} {vN vD vO u : Value} {s : CS} {f : Nat → Option Nat}
theorem Cr.fne (h : Cr w0 W g vN vD vO mb tb ab n s f) {q t : Nat} {x : Array Value} (hq : W.heap[q]? = some (.cells x t (0, 0))) (p : Nat) : f p ≠ some q := fun e => by
 cases ha : s.a p with
 | none => rw [h.no p ha] at e; cases e
 | some ks =>
  obtain ⟨b, h1, h2, h3⟩ := h.own p ks ha
  rw [e] at h1
  injection h1 with h1
  subst h1
  exact owns_ne h3 hq rfl
theorem Cr.flt (h : Cr w0 W g vN vD vO mb tb ab n s f) (p q : Nat) (e : f p = some q) : q < W.heap.size := by
 cases ha : s.a p with
 | none => rw [h.no p ha] at e; cases e
 | some ks =>
  obtain ⟨b, h1, h2, h3⟩ := h.own p ks ha
  rw [e] at h1
  injection h1 with h1
  subst h1
  exact h3.lt
theorem Cr.keepu {b cnt : Nat} {D : DataW Unit} (h : Cr w0 W g vN vD vO mb tb ab n s f) (hg : W.grownBy W1 (some b)) (hw : W.ownsMap Tryz.prog 3 RB b cnt D) (hf : ∀ p, f p ≠ some b) (hb : w0.heap.size ≤ b) : Cr w0 W1 g vN vD vO mb tb ab n s f := by
 have kp : ∀ {q t : Nat} {y : Array Value}, W.heap[q]? = some (.cells y t (0, 0)) → W1.heap[q]? = some (.cells y t (0, 0)) := fun hq => blk_grown hq hg (fun e => by injection e with e; exact owns_ne hw hq e.symm)
 have hne : ∀ k, some b = some k → some k ≠ vO.ownBlock := by
  intro k hk he
  injection hk with hk
  subst hk
  obtain ⟨cells, hc⟩ := Kd.R_typed h.ro b he.symm
  exact owns_ne hw hc rfl
 refine ⟨kp h.blk, h.ge, Kd.R_grown2 h.ro rfl hg hne, kp h.bm, kp h.bt, kp h.ba, h.lm, h.lt, h.gm, h.gt, h.ga, h.ne, h.no, ?_, h.inj, Below.grown h.bel hg h.bel.size (fun k hk => by injection hk with hk; omega)⟩
 intro q l hq
 obtain ⟨c, h4, h5, h6⟩ := h.own q l hq
 exact ⟨c, h4, h5, h6.kept hg (fun e2 => by injection e2 with e2; subst e2; exact hf q h4)⟩
theorem Cr.app (h : Cr w0 W g vN vD vO mb tb ab n s f) (hg : W.grownBy W1 vO.ownBlock) {l : List Int} (ho : Kd.R (Kd.int .i64) 3 W1 w0.heap.size (fun _ => True) u l) (hb : Below w0.heap.size w0 W1) :
 Cr w0 (W1.setCell ⟨g, 2, none⟩ u) g vN vD u mb tb ab n { s with op := l } f := by
 have nb := Kd.R_ne h.ro h.blk (by decide)
 have nm := Kd.R_ne h.ro h.bm (by decide)
 have nt := Kd.R_ne h.ro h.bt (by decide)
 have na := Kd.R_ne h.ro h.ba (by decide)
 have hk := blk_grown h.blk hg nb
 have e1 : mb ≠ g := fun e => blk_no h.blk h.bm (by decide) e.symm
 have e2 : tb ≠ g := fun e => blk_no h.blk h.bt (by decide) e.symm
 have e3 : ab ≠ g := fun e => blk_no h.blk h.ba (by decide) e.symm
 refine ⟨blk_set hk 2 _, h.ge, R_away_set ho rfl (Kd.R_ne ho hk (by decide)) 2 _, blk_far (blk_grown h.bm hg nm) e1 _, blk_far (blk_grown h.bt hg nt) e2 _, blk_far (blk_grown h.ba hg na) e3 _, h.lm, h.lt, h.gm, h.gt, h.ga, h.ne, h.no, ?_, h.inj, hb.setCell h.ge _⟩
 intro q l hq
 obtain ⟨c, h1, h2, h3⟩ := h.own q l hq
 refine ⟨c, h1, h2, (h3.kept hg ?_).setCell (owns_ne h3 h.blk) _⟩
 intro e
 obtain ⟨cells, hc⟩ := Kd.R_typed h.ro c e.symm
 exact owns_ne h3 hc rfl
theorem Cr.newk (h : Cr w0 W g vN vD vO mb tb ab n s f) (i : Nat) (hi : s.a i = none) :
 Cr w0 ((W.alloc (.map #[] 0)).setCell ⟨ab, i, none⟩ (.map (some W.heap.size))) g vN vD vO mb tb ab n { s with a := fun p => if p = i then some [] else s.a p } (fun p => if p = i then some W.heap.size else f p) := by
 have H := h.alloc (.map #[] 0)
 have hm : (W.alloc (.map #[] 0)).heap[W.heap.size]? = some (.map #[] 0) := Array.getElem?_push_size
 have e1 : g ≠ ab := fun e => blk_no h.blk h.ba (by decide) e
 have e2 : mb ≠ ab := fun e => blk_no h.ba h.bm (by decide) e.symm
 have e3 : tb ≠ ab := fun e => blk_no h.ba h.bt (by decide) e.symm
 refine ⟨blk_far H.blk e1 _, H.ge, R_away_set H.ro rfl (Kd.R_ne H.ro H.ba (by decide)) i _, blk_far H.bm e2 _, blk_far H.bt e3 _, blk_put H.ba i _ (mcells_set _ _ _ _), H.lm, H.lt, H.gm, H.gt, H.ga, H.ne, ?_, ?_, ?_, H.bel.setCell H.ga _⟩
 ·intro p hp
  have hp : (if p = i then some [] else s.a p) = none := hp
  show (if p = i then some W.heap.size else f p) = none
  by_cases e : p = i
  ·rw [if_pos e] at hp; cases hp
  ·rw [if_neg e] at hp ⊢; exact h.no p hp
 ·intro p ks hp
  have hp : (if p = i then some [] else s.a p) = some ks := hp
  show ∃ b, (if p = i then some W.heap.size else f p) = some b ∧ _
  by_cases e : p = i
  ·rw [if_pos e] at hp
   injection hp with hp
   subst hp
   refine ⟨W.heap.size, if_pos e, h.bel.size, ?_⟩
   have := World.ownsMap_made W Tryz.prog 3 RB
   exact this.setCell (fun e => by have := blk_lt h.ba; have e : W.heap.size = ab := e; omega) _
  ·rw [if_neg e] at hp
   obtain ⟨b, h1, h2, h3⟩ := H.own p ks hp
   exact ⟨b, by rw [if_neg e]; exact h1, h2, h3.setCell (owns_ne h3 H.ba) _⟩
 ·intro p q b hp hq
  have hp : (if p = i then some W.heap.size else f p) = some b := hp
  have hq : (if q = i then some W.heap.size else f q) = some b := hq
  by_cases e : p = i
  ·by_cases e' : q = i
   ·rw [e, e']
   ·rw [if_pos e] at hp
    rw [if_neg e'] at hq
    injection hp with hp
    have := h.flt q b hq; omega
  ·by_cases e' : q = i
   ·rw [if_pos e'] at hq
    rw [if_neg e] at hp
    injection hq with hq
    have := h.flt p b hp; omega
   ·rw [if_neg e] at hp
    rw [if_neg e'] at hq
    exact h.inj p q b hp hq
end
section
variable {w0 W W2 : World} {g mb tb ab n : Nat} {vN vD vO : Value} {s : CS} {f : Nat → Option Nat} {ops : Array Oper} {o : Oper} {a : Act} {Q : Exit → Act → World → Prop}
theorem Cr.list {rest : List Oper} (h : Cr w0 W g vN vD vO mb tb ab n s f) (hl : s.op.length ≤ 1000000) (x : Int) (p y : Operand) (hgd : o.guard = none)
 (ho : o.op = .call { callee := .builtin .append, args := #[p, y], argTypes := #[47, 47] }) (hs : a.eval p = vO) (hx : a.eval y = .slice (some ⟨W.heap.size, 0, none⟩) 1 1)
 (hW : W2 = W.alloc (.cells #[.int .i64 x] 3))
 (K : ∀ A1 c1 w1, Cr w0 (w1.setCell ⟨g, 2, none⟩ (.slice A1 (s.op.length + 1) c1)) g vN vD (.slice A1 (s.op.length + 1) c1) mb tb ab n { s with op := s.op ++ [x] } f → w1.cell? ⟨g, 2, none⟩ = some vO → w1.frozen? ⟨g, 2, none⟩ = false → W.grownBy w1 vO.ownBlock → wpList Tryz.prog ops Q rest (a.put o.dst (.slice A1 (s.op.length + 1) c1)) w1) :
 wpList Tryz.prog ops Q (o :: rest) a W2 := by
 subst hW
 refine Kd.R_append (Kd.int .i64) (w0 := w0) w0.heap.size hgd p y 47 3 (.int .i64 0) 8 ho Tryz.underlying47 infoInt rfl (by decide) (by omega) vO s.op x [.int .i64 x] (fun _ => True) (fun _ => False) hs hx rfl (fun _ hk => hk.elim) (fun _ _ => trivial) h.ro h.bel h.bel.size (by omega) ?_
 intro u w1 ho1 hb hg hat
 have hB := h.app hg ho1 hb
 have hk1 := blk_grown h.blk hg (Kd.R_ne h.ro h.blk (by decide))
 obtain ⟨A1, c1, rfl, -, -⟩ := Kd.R_reads ho1
 rw [show (s.op ++ [x]).length = s.op.length + 1 from by simp] at hB ⊢
 exact K A1 c1 w1 hB ((blk_cell hk1 2).trans rfl) (blk_frozen hk1 2) hg
end
end Go.Proofs.YtlhhhlimjajnlaaGreat.X
end
