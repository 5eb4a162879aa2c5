/- Parts of the proof of canonSpoilt_holds, kept and merged by a program of mine (wip/tools/slim.py) out of my texts: CanA CanB -/
import Derived.Test.YtlhhhlimjajnlaaGreatSSp0
import Derived.Test.YtlhhhlimjajnlaaGreatSSp9
import Derived.Test.YtlhhhlimjajnlaaGreatSSp12
import Derived.Test.YtlhhhlimjajnlaaGreatSSp16
section
set_option linter.unusedVariables false
set_option linter.unusedSimpArgs false
namespace Go.Proofs.YtlhhhlimjajnlaaGreat.X
open Go.RowKit Go.Maps Go.Proofs.YtlhhhlimjajnlaaGreat Go.Proofs.YtlhhhlimjajnlaaGreat.Q Go.Proofs.YtlhhhlimjajnlaaGreatW.PrintWords Go.Proofs.YtlhhhlimjajnlaaGreatW.PrintLast Go.Proofs.YtlhhhlimjajnlaaGreatW.PrintMore
attribute [local go_sem] max2_int min2_int max_two min_two   
noncomputable abbrev RB : Value → Option (DataW Unit × List MemPlace) := plainElem Tryz.prog 4
theorem KI : Keyed Tryz.prog 3 := int_keyed Tryz.underlying3
abbrev tru : DataW Unit := .lit (.bool true)
def keysI (ks : List Int) : DataW Unit := setOf tru (ks.map fun k => Lit.int .i64 k)
theorem wf_i64 (x : Int) (h0 : -9223372036854775808 ≤ x) (h1 : x ≤ 9223372036854775807) : (Lit.int .i64 x).wf = true := by
 simp [Lit.wf]
 exact ⟨h0, h1⟩
theorem keyI (x : Int) (h0 : -9223372036854775808 ≤ x) (h1 : x ≤ 9223372036854775807) : keyOf Tryz.prog 3 (.int .i64 x) = some (.int .i64 x) := keyOf_int_mk Tryz.underlying3 (wf_i64 x h0 h1)
theorem plain_bool_gen {P : Program} {e : TypeId} (he : P.underlying e = some .bool) {v : Value} {z : DataW Unit × List MemPlace} (h : plainElem P e v = some z) : ∃ b, v = .bool b ∧ z.1 = .lit (.bool b) := by
 unfold plainElem at h
 rw [he] at h
 cases v <;> simp at h
 exact ⟨_, rfl, by rw [← h]⟩
theorem plain_bool_inv {v : Value} {z : DataW Unit × List MemPlace} (h : RB v = some z) : ∃ b, v = .bool b ∧ z.1 = .lit (.bool b) := plain_bool_gen Tryz.underlying4 h
theorem isMap_keysI (ks : List Int) : IsMap (keysI ks) := (tidy_setOf tru _ (by
 intro x hx
 obtain ⟨s, _, rfl⟩ := List.mem_map.1 hx
 trivial)).isMap
theorem at_keysI (x : Int) (z : Bool) : ∀ (n : Nat) (ks : List Int), ks.length = n → (keysI ks).atKey (.int .i64 x) (.lit (.bool z)) = if x ∈ ks then tru else .lit (.bool z)
 | 0, ks, hn => by
  rw [List.eq_nil_of_length_eq_zero hn, if_neg (by simp)]; rfl
 | n + 1, ks, hn => by
  rcases List.eq_nil_or_concat ks with h | ⟨pre, k, h⟩
  ·rw [h] at hn; cases hn
  ·rw [List.concat_eq_append] at h
   subst h
   have hpre : pre.length = n := by rw [List.length_append, List.length_singleton] at hn; omega
   unfold keysI
   rw [List.map_append, List.map_singleton, setOf_snoc]
   show ((keysI pre).put (.int .i64 k) tru).atKey _ _ = _
   by_cases e : x = k
   ·subst e
    rw [atKey_put_same (isMap_keysI pre) (show WideAt.IsKeyLit (Lit.int .i64 x) from trivial), if_pos (by simp)]
   ·rw [atKey_put_other (fun h => e (by injection h))]
    rw [at_keysI x z n pre hpre]
    by_cases m : x ∈ pre
    ·rw [if_pos m, if_pos (by simp [m])]
    ·rw [if_neg m, if_neg (by simp [m, e])]
def mcells (f : Nat → Option Nat) (n : Nat) : Array Value := ((List.range n).map fun p => Value.map (f p)).toArray
def bcells (l : List Bool) : Array Value := (l.map Value.bool).toArray
structure Cr (w0 W : World) (g : Nat) (vN vD vO : Value) (mb tb ab n : Nat) (s : CS) (f : Nat → Option Nat) : Prop where
 blk : W.heap[g]? = some (.cells #[vN, vD, vO, .slice (some ⟨mb, 0, none⟩) n n, .slice (some ⟨tb, 0, none⟩) n n, .slice (some ⟨ab, 0, none⟩) n n] 79 (0, 0))
 ge : w0.heap.size ≤ g
 ro : Kd.R (Kd.int .i64) 3 W w0.heap.size (fun _ => True) vO s.op
 bm : W.heap[mb]? = some (.cells (bcells s.m) 4 (0, 0))
 bt : W.heap[tb]? = some (.cells (bcells s.t) 4 (0, 0))
 ba : W.heap[ab]? = some (.cells (mcells f n) 80 (0, 0))
 lm : s.m.length = n
 lt : s.t.length = n
 gm : w0.heap.size ≤ mb
 gt : w0.heap.size ≤ tb
 ga : w0.heap.size ≤ ab
 ne : mb ≠ tb
 no : ∀ p, s.a p = none → f p = none
 own : ∀ p ks, s.a p = some ks → ∃ b, f p = some b ∧ w0.heap.size ≤ b ∧ W.ownsMap Tryz.prog 3 RB b ks.length (keysI ks)
 inj : ∀ p q b, f p = some b → f q = some b → p = q
 bel : Below w0.heap.size w0 W
section
variable {w0 W W1 : World} {g mb tb ab n : Nat} {vN vD vO : Value} {s : CS} {f : Nat → Option Nat}
theorem grown_of_below (hb : Below W.heap.size W W1) : W.grownBy W1 none := ⟨hb.os, hb.tape, hb.output, hb.size, fun k hk _ => hb.block k hk⟩
theorem Cr.below (h : Cr w0 W g vN vD vO mb tb ab n s f) (hb : Below W.heap.size W W1) : Cr w0 W1 g vN vD vO mb tb ab n s f :=
 ⟨blk_below h.blk hb, h.ge, Kd.R_below h.ro hb, blk_below h.bm hb, blk_below h.bt hb, blk_below h.ba hb, h.lm, h.lt, h.gm, h.gt, h.ga, h.ne, h.no,
  fun p ks hp => by obtain ⟨b, h1, h2, h3⟩ := h.own p ks hp; exact ⟨b, h1, h2, h3.kept (grown_of_below hb) (by simp)⟩, h.inj, below_step h.bel hb⟩
theorem Cr.drew (h : Cr w0 W g vN vD vO mb tb ab n s f) : Cr w0 W.drew g vN vD vO mb tb ab n s f := h.below (below_drew (Below.refl _ _))
theorem Cr.alloc (h : Cr w0 W g vN vD vO mb tb ab n s f) (o : Obj) : Cr w0 (W.alloc o) g vN vD vO mb tb ab n s f := h.below (below_alloc (Below.refl _ _) o)
theorem Cr.c0 (h : Cr w0 W g vN vD vO mb tb ab n s f) : W.cell? ⟨g, 0, none⟩ = some vN := (blk_cell h.blk 0).trans rfl
theorem Cr.c1 (h : Cr w0 W g vN vD vO mb tb ab n s f) : W.cell? ⟨g, 1, none⟩ = some vD := (blk_cell h.blk 1).trans rfl
theorem Cr.c2 (h : Cr w0 W g vN vD vO mb tb ab n s f) : W.cell? ⟨g, 2, none⟩ = some vO := (blk_cell h.blk 2).trans rfl
theorem Cr.c3 (h : Cr w0 W g vN vD vO mb tb ab n s f) : W.cell? ⟨g, 3, none⟩ = some (.slice (some ⟨mb, 0, none⟩) n n) := (blk_cell h.blk 3).trans rfl
theorem Cr.c4 (h : Cr w0 W g vN vD vO mb tb ab n s f) : W.cell? ⟨g, 4, none⟩ = some (.slice (some ⟨tb, 0, none⟩) n n) := (blk_cell h.blk 4).trans rfl
theorem Cr.c5 (h : Cr w0 W g vN vD vO mb tb ab n s f) : W.cell? ⟨g, 5, none⟩ = some (.slice (some ⟨ab, 0, none⟩) n n) := (blk_cell h.blk 5).trans rfl
theorem Cr.fr (h : Cr w0 W g vN vD vO mb tb ab n s f) (i : Nat) : W.frozen? ⟨g, i, none⟩ = false := blk_frozen h.blk i
theorem Cr.fm (h : Cr w0 W g vN vD vO mb tb ab n s f) (i : Nat) : W.frozen? ⟨mb, i, none⟩ = false := blk_frozen h.bm i
theorem Cr.ft (h : Cr w0 W g vN vD vO mb tb ab n s f) (i : Nat) : W.frozen? ⟨tb, i, none⟩ = false := blk_frozen h.bt i
theorem Cr.fa (h : Cr w0 W g vN vD vO mb tb ab n s f) (i : Nat) : W.frozen? ⟨ab, i, none⟩ = false := blk_frozen h.ba i
theorem Cr.cm (h : Cr w0 W g vN vD vO mb tb ab n s f) (p : Nat) (hp : p < n) : W.cell? ⟨mb, p, none⟩ = some (.bool (s.m.getD p false)) := by
 have hl : p < s.m.length := by rw [h.lm]; exact hp
 rw [blk_cell h.bm p]
 unfold bcells
 rw [List.getElem?_toArray, List.getElem?_map, List.getElem?_eq_getElem hl, List.getD_eq_getElem?_getD, List.getElem?_eq_getElem hl]; rfl
theorem Cr.ct (h : Cr w0 W g vN vD vO mb tb ab n s f) (p : Nat) (hp : p < n) : W.cell? ⟨tb, p, none⟩ = some (.bool (s.t.getD p false)) := by
 have hl : p < s.t.length := by rw [h.lt]; exact hp
 rw [blk_cell h.bt p]
 unfold bcells
 rw [List.getElem?_toArray, List.getElem?_map, List.getElem?_eq_getElem hl, List.getD_eq_getElem?_getD, List.getElem?_eq_getElem hl]; rfl
theorem Cr.ca (h : Cr w0 W g vN vD vO mb tb ab n s f) (p : Nat) (hp : p < n) : W.cell? ⟨ab, p, none⟩ = some (.map (f p)) := by
 rw [blk_cell h.ba p]
 unfold mcells
 rw [List.getElem?_toArray, List.getElem?_map, List.getElem?_range hp]; rfl
theorem bcells_set (l : List Bool) (p : Nat) (b : Bool) : (bcells l).setIfInBounds p (.bool b) = bcells (l.set p b) := by
 unfold bcells
 rw [List.setIfInBounds_toArray, List.map_set]
theorem mcells_set (f : Nat → Option Nat) (n p b : Nat) : (mcells f n).setIfInBounds p (.map (some b)) = mcells (fun q => if q = p then some b else f q) n := by
 unfold mcells
 rw [List.setIfInBounds_toArray]
 congr 1
 apply List.ext_getElem?
 intro i
 rw [List.getElem?_set, List.getElem?_map, List.getElem?_map]
 by_cases hi : i < n
 ·rw [List.getElem?_range hi]
  by_cases e : p = i
  ·subst e; simp [hi]
  ·rw [if_neg e]
   show some (Value.map (f i)) = some (Value.map (if i = p then some b else f i))
   rw [if_neg (fun h => e h.symm)]
 ·have : (List.range n)[i]? = none := List.getElem?_eq_none (by rw [List.length_range]; omega)
  rw [this]
  by_cases e : p = i
  ·subst e; simp [hi]
  ·rw [if_neg e]; rfl
end
end Go.Proofs.YtlhhhlimjajnlaaGreat.X
end
section
set_option linter.unusedVariables false
set_option linter.unusedSimpArgs false
namespace Go.Proofs.YtlhhhlimjajnlaaGreat.X
open Go.RowKit Go.Maps Go.Proofs.YtlhhhlimjajnlaaGreat Go.Proofs.YtlhhhlimjajnlaaGreat.Q Go.Proofs.YtlhhhlimjajnlaaGreatW.PrintWords Go.Proofs.YtlhhhlimjajnlaaGreatW.PrintLast Go.Proofs.YtlhhhlimjajnlaaGreatW.PrintMore
attribute [local go_sem] max2_int min2_int max_two min_two   
theorem beqI_f {a b : Int} (h : ¬ a = b) : (a == b) = false := beq_eq_false_iff_ne.mpr h
theorem str_t {s : ByteArray} (h : s.data.toList = []) : (s.toList == ([] : List UInt8)) = true ∧ (s.toList != ([] : List UInt8)) = false ∧ s.toList.isEmpty = true ∧ s.toList = [] ∧ (s.data.toList == ([] : List UInt8)) = true := by
 have e : s.toList = [] := by rw [Lib.toList_data]; exact h
 rw [e, h]; exact ⟨rfl, rfl, rfl, rfl, rfl⟩
theorem str_f {s : ByteArray} (h : ¬ s.data.toList = []) : (s.toList == ([] : List UInt8)) = false ∧ (s.toList != ([] : List UInt8)) = true ∧ s.toList.isEmpty = false ∧ ¬ s.toList = [] ∧ (s.data.toList == ([] : List UInt8)) = false := by
 have e : ¬ s.toList = [] := by rw [Lib.toList_data]; exact h
 refine ⟨beq_eq_false_iff_ne.mpr e, bne_iff_ne.mpr e, ?_, e, beq_eq_false_iff_ne.mpr h⟩
 cases hs : s.toList with
 | nil => exact absurd hs e
 | cons => rfl
set_option maxHeartbeats 8000000 in
set_option maxRecDepth 100000 in
theorem named_c {w0 w : World} {g mb tb ab n nn cN : Nat} {AN : Option Addr} {vD vO : Value} {s : CS} {f : Nat → Option Nat} (h : Cr w0 w g (.slice AN nn cN) vD vO mb tb ab n s f) (hn : nn ≤ 1000000) (x : Nod) :
 Calls Tryz.prog 45 #[.pointer (some ⟨g, 0, none⟩), .agg #[.int .i64 x.f0, .int .i64 x.f1, .int .i64 x.f2, .string x.f3]] w fun e w' => e = .returned (.bool (namedP nn x)) ∧ Below w.heap.size w w' := by
 obtain ⟨k, nm, pa, v⟩ := x
 simp only
 unfold namedP
 simp only
 have hB0 := below_alloc (Below.refl w.heap.size w) (.cells #[.int .i64 k, .int .i64 nm, .int .i64 pa, .string v] 41)
 have hbx := blk_new w (.cells #[.int .i64 k, .int .i64 nm, .int .i64 pa, .string v] 41)
 have hc0 := (h.alloc (.cells #[.int .i64 k, .int .i64 nm, .int .i64 pa, .string v] 41)).c0
 have hx0 := (blk_cell hbx 0).trans (show _ = some (Value.int .i64 k) from rfl)
 have hx1 := (blk_cell hbx 1).trans (show _ = some (Value.int .i64 nm) from rfl)
 have hx3 := (blk_cell hbx 3).trans (show _ = some (Value.string v) from rfl)
 have HB := Lib.hid hB0
 clear hB0 hbx h
 by_cases c3 : k = 3
 ·subst c3
  rw [if_pos rfl]
  have d3 : ((3 : Int) == 3) = true := rfl
  by_cases cm : nm = -1
  ·subst cm
   have dm : ((-1 : Int) == -1) = true := rfl
   by_cases ce : v.data.toList = []
   ·obtain ⟨s1, s2, s3, s4, s5⟩ := str_t ce
    rw [s5]
    go_enter Tryz.func45, Tryz.ntmps45
    go_wp2
    first | go_ret | go_ret2 | go_ret3
    exact ⟨rfl, HB.out⟩
   ·obtain ⟨s1, s2, s3, s4, s5⟩ := str_f ce
    rw [s5]
    go_enter Tryz.func45, Tryz.ntmps45
    go_wp2
    first | go_ret | go_ret2 | go_ret3
    exact ⟨rfl, HB.out⟩
  ·have dm := beqI_f cm
   rw [decide_eq_false cm, Bool.false_and]
   go_enter Tryz.func45, Tryz.ntmps45
   go_wp2
   first | go_ret | go_ret2 | go_ret3
   exact ⟨rfl, HB.out⟩
 ·rw [if_neg c3]
  have d3 := beqI_f c3
  by_cases c0 : 0 ≤ nm
  rotate_left
  ·have p0 := eq_false c0
   have p0' : (nm ≥ 0) = False := eq_false c0
   rw [decide_eq_false c0, Bool.false_and, Bool.false_and]
   go_enter Tryz.func45, Tryz.ntmps45
   go_wp2
   go_region
   all_goals (try go_wp2)
   all_goals first | go_ret | go_ret2 | go_ret3
   all_goals exact ⟨rfl, zz34⟩
  have p0 := eq_true c0
  rw [decide_eq_true c0, Bool.true_and]
  by_cases c1 : nm < (nn : Int)
  rotate_left
  ·have p1 := eq_false c1
   rw [decide_eq_false c1, Bool.false_and]
   go_enter Tryz.func45, Tryz.ntmps45
   go_wp2
   go_region
   all_goals (try go_wp2)
   all_goals first | go_ret | go_ret2 | go_ret3
   all_goals exact ⟨rfl, zz34⟩
  have p1 := eq_true c1
  rw [decide_eq_true c1, Bool.true_and]
  by_cases c2 : k = 2
  ·subst c2
   have d2 : ((2 : Int) == 2) = true := rfl
   rw [decide_eq_true (show (2 : Int) = 2 from rfl), Bool.true_or]
   go_enter Tryz.func45, Tryz.ntmps45
   go_wp2
   go_region
   all_goals (try go_wp2)
   all_goals first | go_ret | go_ret2 | go_ret3
   all_goals exact ⟨rfl, zz34⟩
  have d2 := beqI_f c2
  rw [decide_eq_false c2, Bool.false_or]
  by_cases c4 : k = 1
  rotate_left
  ·have d1 := beqI_f c4
   rw [decide_eq_false c4, Bool.false_and]
   go_enter Tryz.func45, Tryz.ntmps45
   go_wp2
   go_region
   all_goals (try go_wp2)
   all_goals first | go_ret | go_ret2 | go_ret3
   all_goals exact ⟨rfl, zz34⟩
  subst c4
  have d1 : ((1 : Int) == 1) = true := rfl
  rw [decide_eq_true (show (1 : Int) = 1 from rfl), Bool.true_and]
  by_cases ce : v.data.toList = []
  ·obtain ⟨s1, s2, s3, s4, s5⟩ := str_t ce
   rw [s5]
   go_enter Tryz.func45, Tryz.ntmps45
   go_wp2
   go_region
   all_goals (try go_wp2)
   all_goals first | go_ret | go_ret2 | go_ret3
   all_goals exact ⟨rfl, zz34⟩
  ·obtain ⟨s1, s2, s3, s4, s5⟩ := str_f ce
   rw [s5]
   go_enter Tryz.func45, Tryz.ntmps45
   go_wp2
   go_region
   all_goals (try go_wp2)
   all_goals first | go_ret | go_ret2 | go_ret3
   all_goals exact ⟨rfl, zz34⟩
theorem Cr.cut {w0 W : World} {g mb tb ab n l c : Nat} {vN vD : Value} {A : Option Addr} {s : CS} {f : Nat → Option Nat} (h : Cr w0 W g vN vD (.slice A l c) mb tb ab n s f) (m : Nat) (hm : m ≤ s.op.length) :
 Cr w0 (W.setCell ⟨g, 2, none⟩ (.slice A m c)) g vN vD (.slice A m c) mb tb ab n { s with op := s.op.take m } f := by
 have r := Kd.R_take h.ro hm
 have e1 : mb ≠ g := fun e => by have h1 := h.bm; have h2 := h.blk; rw [e, h2] at h1; injection h1 with h1; injection h1 with _ h1; exact absurd h1 (by decide)
 have e2 : tb ≠ g := fun e => by have h1 := h.bt; have h2 := h.blk; rw [e, h2] at h1; injection h1 with h1; injection h1 with _ h1; exact absurd h1 (by decide)
 have e3 : ab ≠ g := fun e => by have h1 := h.ba; have h2 := h.blk; rw [e, h2] at h1; injection h1 with h1; injection h1 with _ h1; exact absurd h1 (by decide)
 refine ⟨blk_set h.blk 2 _, h.ge, R_away_set r rfl (Kd.R_ne r h.blk (by decide)) 2 _, blk_far h.bm e1 _, blk_far h.bt e2 _, blk_far h.ba e3 _, h.lm, h.lt, h.gm, h.gt, h.ga, h.ne, h.no, ?_, h.inj, h.bel.setCell h.ge _⟩
 intro p ks hp
 obtain ⟨b, h1, h2, h3⟩ := h.own p ks hp
 refine ⟨b, h1, h2, h3.setCell (fun e => ?_) _⟩
 have e : b = g := e
 obtain ⟨es, clock, hb, _⟩ := h3
 rw [e, h.blk] at hb
 cases hb
end Go.Proofs.YtlhhhlimjajnlaaGreat.X
end
