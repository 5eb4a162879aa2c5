/- Parts of the proof of canonSpoilt_holds, kept and merged by a program of mine (wip/tools/slim.py) out of my texts: CanC CanD CanE CanG CanF CanH -/
import Derived.Test.YtlhhhlimjajnlaaGreatSSp0
import Derived.Test.YtlhhhlimjajnlaaGreatSSp17
import Derived.Test.YtlhhhlimjajnlaaGreatSSp18
import Derived.Test.YtlhhhlimjajnlaaGreatSSp16
section
set_option linter.unusedVariables false
set_option linter.unusedSimpArgs false
namespace Go.Proofs.YtlhhhlimjajnlaaGreat.X
open Go.RowKit Go.Maps Go.Proofs.YtlhhhlimjajnlaaGreat Go.Proofs.YtlhhhlimjajnlaaGreat.Q Go.Proofs.YtlhhhlimjajnlaaGreatW.PrintWords Go.Proofs.YtlhhhlimjajnlaaGreatW.PrintLast Go.Proofs.YtlhhhlimjajnlaaGreatW.PrintMore
attribute [local go_sem] max2_int min2_int max_two min_two   
theorem idxFrom_is (x : Int) : ∀ (zs : List Int) (i : Nat), Lib.idxFrom zs x i = if x ∈ zs then ((i + zs.idxOf x : Nat) : Int) else -1
 | [], i => by rw [if_neg (by simp)]; rfl
 | z :: zs, i => by
  unfold Lib.idxFrom
  by_cases h : z = x
  ·subst h
   rw [if_pos rfl, if_pos (by simp), List.idxOf_cons_self]; rfl
  ·rw [if_neg h, idxFrom_is x zs (i + 1)]
   have hne : (z == x) = false := beq_eq_false_iff_ne.mpr h
   by_cases m : x ∈ zs
   ·rw [if_pos m, if_pos (List.mem_cons_of_mem _ m), List.idxOf_cons, hne]
    simp only [cond_false]
    congr 1; omega
   ·rw [if_neg m, if_neg (by
     rw [List.mem_cons]
     exact fun e => e.elim (fun e => h e.symm) m)]
theorem index_c {w0 W : World} {g mb tb ab n : Nat} {vN vD vO : Value} {s : CS} {f : Nat → Option Nat} (h : Cr w0 W g vN vD vO mb tb ab n s f) (hl : s.op.length ≤ 1000000) (x : Int) :
 Calls Tryz.prog 102 #[vO, .int .i64 x] W fun e w' => e = .returned (.int .i64 (if x ∈ s.op then ((s.op.idxOf x : Nat) : Int) else -1)) ∧ w' = W := by
 have hi : (if x ∈ s.op then ((s.op.idxOf x : Nat) : Int) else -1) = Lib.idxOf s.op x := by
  unfold Lib.idxOf
  rw [idxFrom_is]
  simp
 rw [hi]
 by_cases ho : s.op = []
 ·obtain ⟨A, c, rfl, hle, hC⟩ := Kd.R_reads h.ro
  rw [ho]
  exact Tryz.slices_Index_int_empty A c x W
 ·obtain ⟨gb, cb, hv, -, -, -⟩ := Kd.R_form h.ro (List.length_pos_iff.2 ho)
  have hr := h.ro
  rw [hv] at hr ⊢
  have hC := (Kd.R_reads' hr).2.2
  have := Tryz.slices_Index_int gb 0 s.op.length cb s.op x W (Nat.le_refl _) (by omega) (by
   intro j hj
   obtain ⟨ad', he, hx⟩ := Kd.at_int hC ((j : Nat) : Int) (by omega) (by omega)
   cases he
   rw [Int.toNat_natCast] at hx
   have e1 : (⟨gb, 0, none⟩ : Addr).add j = ⟨gb, 0 + j, none⟩ := by simp [Addr.add]; omega
   rw [← e1, hx]
   unfold rd
   rw [Int.toNat_natCast])
  rw [List.take_of_length_le (Nat.le_refl _)] at this
  exact this
set_option maxHeartbeats 8000000 in
set_option maxRecDepth 100000 in
theorem place_no {w0 w : World} {g mb tb ab n : Nat} {vN vD vO : Value} {s : CS} {f : Nat → Option Nat} (h : Cr w0 w g vN vD vO mb tb ab n s f) (hl : s.op.length ≤ 1000000) (k nm pa : Int) (v : ByteArray) (hp : ¬ pa ∈ s.op) :
 Calls Tryz.prog 75 #[.pointer (some ⟨g, 0, none⟩), .agg #[.int .i64 k, .int .i64 nm, .int .i64 pa, .string v]] w fun e w' => e = .returned (.bool false) ∧ Below w.heap.size w w' := by
 have hB0 := below_alloc (Below.refl w.heap.size w) (.cells #[.int .i64 k, .int .i64 nm, .int .i64 pa, .string v] 41)
 have hbx := blk_new w (.cells #[.int .i64 k, .int .i64 nm, .int .i64 pa, .string v] 41)
 have hC := h.alloc (.cells #[.int .i64 k, .int .i64 nm, .int .i64 pa, .string v] 41)
 have hc2 := hC.c2
 have hx2 := (blk_cell hbx 2).trans (show _ = some (Value.int .i64 pa) from rfl)
 have HB := Lib.hid hB0
 have HC := Lib.hid hC
 have HL := Lib.hid hl
 have HP := Lib.hid hp
 clear hB0 hbx h hC hl hp
 go_enter Tryz.func75, Tryz.ntmps75
 go_wp2
 go_region_with (go_at_call 102; refine (index_c (w0 := w0) (g := g) (vN := vN) (vD := vD) (mb := mb) (tb := tb) (ab := ab) (n := n) (s := s) (f := f) (by first | exact HC.out | exact HC.out.drew | exact HC.out.drewN _) HL.out pa).mono ?_; rw [if_neg HP.out]; rintro e w2 ⟨rfl, rfl⟩)
 all_goals (try go_wp2)
 all_goals first | go_ret | go_ret2 | go_ret3
 all_goals exact ⟨rfl, zz34⟩
set_option maxHeartbeats 8000000 in
set_option maxRecDepth 100000 in
theorem place_yes {w0 w : World} {g mb tb ab n : Nat} {vN vD vO : Value} {s : CS} {f : Nat → Option Nat} (h : Cr w0 w g vN vD vO mb tb ab n s f) (hl : s.op.length ≤ 1000000) (k nm pa : Int) (v : ByteArray) (hp : pa ∈ s.op) :
 Calls Tryz.prog 75 #[.pointer (some ⟨g, 0, none⟩), .agg #[.int .i64 k, .int .i64 nm, .int .i64 pa, .string v]] w fun e w' => e = .returned (.bool true) ∧ (∀ k, k < w.heap.size → k ≠ g → w'.heap[k]? = w.heap[k]?) ∧ ∃ vO', Cr w0 w' g vN vD vO' mb tb ab n { s with op := s.op.take (s.op.idxOf pa + 1) } f := by
 have hbx := blk_new w (.cells #[.int .i64 k, .int .i64 nm, .int .i64 pa, .string v] 41)
 have hC := h.alloc (.cells #[.int .i64 k, .int .i64 nm, .int .i64 pa, .string v] 41)
 have hx2 := (blk_cell hbx 2).trans (show _ = some (Value.int .i64 pa) from rfl)
 have hlt := List.idxOf_lt_length_of_mem hp
 have hidx := fun W (hW : Cr w0 W g vN vD vO mb tb ab n s f) => index_c hW hl pa
 rw [if_pos hp] at hidx
 obtain ⟨A, c, hv, hle, -⟩ := Kd.R_reads hC.ro
 subst hv
 obtain ⟨I, hI⟩ : ∃ I, s.op.idxOf pa = I := ⟨_, rfl⟩
 obtain ⟨L, hL⟩ : ∃ L, s.op.length = L := ⟨_, rfl⟩
 obtain ⟨J, hJ⟩ : ∃ J, I + 1 = J := ⟨_, rfl⟩
 have HI := Lib.hid (show J ≤ s.op.length by omega)
 rw [hI] at hidx hlt ⊢
 rw [hJ]
 rw [hL] at hle hlt hl
 have hc2 := hC.c2
 have hf2 := hC.fr 2
 rw [hL] at hc2
 have HC := Lib.hid hC
 have HX := Lib.hid hidx
 have p0 : ((I : Int) < 0) = False := eq_false (by omega)
 have e1 : IntKind.i64.wrap ((I : Int) + 1) = (J : Int) := zz15
 have p1 : ((0 : Int) ≤ (J : Int)) = True := eq_true (by omega)
 have p2 : ((J : Int) ≤ (c : Int)) = True := eq_true (by omega)
 have HLL := Lib.hid hL
 clear hbx h hC hl hp hidx hlt hle hL hI hJ
 go_enter Tryz.func75, Tryz.ntmps75
 go_wp2
 go_region_with (go_at_call 102; rw [← HLL.out]; refine (HX.out _ (by first | exact HC.out | exact HC.out.drew | exact HC.out.drewN _)).mono ?_; rintro e w2 ⟨rfl, rfl⟩; (try rw [HLL.out]))
 all_goals (try go_wp2)
 all_goals first | go_ret | go_ret2 | go_ret3
 all_goals
  have hcut := Cr.cut (by first | exact HC.out | exact HC.out.drew) J HI.out
  have hfr : ∀ q, q < w.heap.size → q ≠ g → ((w.alloc (.cells #[.int .i64 k, .int .i64 nm, .int .i64 pa, .string v] 41)).setCell ⟨g, 2, none⟩ (.slice A J c)).heap[q]? = w.heap[q]? := fun q h1 h2 => (Below.heap_setCell _ _ _ q h2).trans (Below.heap_alloc w _ q h1)
  first | exact ⟨rfl, hfr, _, hcut⟩ | exact ⟨rfl, hfr, _, hcut.drew⟩ | exact ⟨rfl, hfr, _, hcut.drew.drew⟩
set_option maxHeartbeats 8000000 in
set_option maxRecDepth 100000 in
theorem right_root {w0 w : World} {g mb tb ab n : Nat} {vN vD vO : Value} {s : CS} {f : Nat → Option Nat} (h : Cr w0 w g vN vD vO mb tb ab n s f) (k nm pa : Int) (v : ByteArray) :
 Calls Tryz.prog 47 #[.pointer (some ⟨g, 0, none⟩), .int .i64 0, .agg #[.int .i64 k, .int .i64 nm, .int .i64 pa, .string v]] w fun e w' => e = .returned (.bool (decide (k = 1 ∧ pa = -1))) ∧ Below w.heap.size w w' := by
 have hB0 := below_alloc (Below.refl w.heap.size w) (.cells #[.int .i64 k, .int .i64 nm, .int .i64 pa, .string v] 41)
 have hbx := blk_new w (.cells #[.int .i64 k, .int .i64 nm, .int .i64 pa, .string v] 41)
 have hx0 := (blk_cell hbx 0).trans (show _ = some (Value.int .i64 k) from rfl)
 have hx2 := (blk_cell hbx 2).trans (show _ = some (Value.int .i64 pa) from rfl)
 have HB := Lib.hid hB0
 clear hB0 hbx h
 by_cases c1 : k = 1
 ·subst c1
  have d1 : ((1 : Int) == 1) = true := rfl
  by_cases c2 : pa = -1
  ·subst c2
   have d2 : ((-1 : Int) == -1) = true := rfl
   rw [decide_eq_true (show (1 : Int) = 1 ∧ (-1 : Int) = -1 from ⟨rfl, rfl⟩)]
   go_enter Tryz.func47, Tryz.ntmps47
   go_wp2
   first | go_ret | go_ret2 | go_ret3
   exact ⟨rfl, HB.out⟩
  ·have d2 := beqI_f c2
   rw [decide_eq_false (show ¬ ((1 : Int) = 1 ∧ pa = -1) from fun e => c2 e.2)]
   go_enter Tryz.func47, Tryz.ntmps47
   go_wp2
   first | go_ret | go_ret2 | go_ret3
   exact ⟨rfl, HB.out⟩
 ·have d1 := beqI_f c1
  rw [decide_eq_false (show ¬ (k = 1 ∧ pa = -1) from fun e => c1 e.1)]
  go_enter Tryz.func47, Tryz.ntmps47
  go_wp2
  first | go_ret | go_ret2 | go_ret3
  exact ⟨rfl, HB.out⟩
set_option maxHeartbeats 8000000 in
set_option maxRecDepth 100000 in
theorem right_apart {w0 w : World} {g mb tb ab n : Nat} {vN vD vO : Value} {s : CS} {f : Nat → Option Nat} (h : Cr w0 w g vN vD vO mb tb ab n s f) (hl : s.op.length ≤ 1000000) (i : Int) (hi : ¬ i = 0) (k nm pa : Int) (v : ByteArray) (hp : ¬ pa ∈ s.op) :
 Calls Tryz.prog 47 #[.pointer (some ⟨g, 0, none⟩), .int .i64 i, .agg #[.int .i64 k, .int .i64 nm, .int .i64 pa, .string v]] w fun e w' => e = .returned (.bool false) ∧ Below w.heap.size w w' := by
 have hB0 := below_alloc (Below.refl w.heap.size w) (.cells #[.int .i64 k, .int .i64 nm, .int .i64 pa, .string v] 41)
 have hbx := blk_new w (.cells #[.int .i64 k, .int .i64 nm, .int .i64 pa, .string v] 41)
 have hC := h.alloc (.cells #[.int .i64 k, .int .i64 nm, .int .i64 pa, .string v] 41)
 have hx0 := (blk_cell hbx 0).trans (show _ = some (Value.int .i64 k) from rfl)
 have hx1 := (blk_cell hbx 1).trans (show _ = some (Value.int .i64 nm) from rfl)
 have hx2 := (blk_cell hbx 2).trans (show _ = some (Value.int .i64 pa) from rfl)
 have hx3 := (blk_cell hbx 3).trans (show _ = some (Value.string v) from rfl)
 have di := beqI_f hi
 have HB := Lib.hid hB0
 have HP := Lib.hid (place_no hC hl k nm pa v hp)
 clear hB0 hbx h hC hl hp hi
 go_enter Tryz.func47, Tryz.ntmps47
 go_wp2_with (go_at_call 75; refine HP.out.mono ?_; rintro e w2 ⟨rfl, hb⟩; have HB2 := Lib.hid (below_step HB.out hb); clear hb)
 first | go_ret | go_ret2 | go_ret3
 exact ⟨rfl, HB2.out⟩
end Go.Proofs.YtlhhhlimjajnlaaGreat.X
end
section
set_option linter.unusedVariables false
set_option linter.unusedSimpArgs false
namespace Go.Proofs.YtlhhhlimjajnlaaGreat.X
open Go.RowKit Go.Maps Go.Proofs.YtlhhhlimjajnlaaGreat Go.Proofs.YtlhhhlimjajnlaaGreat.Q Go.Proofs.YtlhhhlimjajnlaaGreatW.PrintWords Go.Proofs.YtlhhhlimjajnlaaGreatW.PrintLast Go.Proofs.YtlhhhlimjajnlaaGreatW.PrintMore
attribute [local go_sem] max2_int min2_int max_two min_two   
section
variable {w0 W : World} {g mb tb ab n : Nat} {vN vD vO : Value} {s : CS} {f : Nat → Option Nat}
theorem blk_no {a b ta tc : Nat} {x y : Array Value} (h1 : W.heap[a]? = some (.cells x ta (0, 0))) (h2 : W.heap[b]? = some (.cells y tc (0, 0))) (h : ta ≠ tc) : a ≠ b := fun e => by
 rw [e, h2] at h1; injection h1 with h1; injection h1 with _ h1; exact h h1.symm
theorem owns_ne {b q cnt t : Nat} {D : DataW Unit} {x : Array Value} (h : W.ownsMap Tryz.prog 3 RB b cnt D) (h2 : W.heap[q]? = some (.cells x t (0, 0))) : b ≠ q := fun e => by
 obtain ⟨es, clock, hb, _⟩ := h
 rw [e, h2] at hb; cases hb
theorem Cr.setm (h : Cr w0 W g vN vD vO mb tb ab n s f) (p : Nat) (b : Bool) : Cr w0 (W.setCell ⟨mb, p, none⟩ (.bool b)) g vN vD vO mb tb ab n { s with m := s.m.set p b } f := by
 have e1 := blk_no h.blk h.bm (by decide)
 have e2 := blk_no h.ba h.bm (by decide)
 refine ⟨blk_far h.blk e1 _, h.ge, R_away_set h.ro rfl (Kd.R_ne h.ro h.bm (by decide)) p _, blk_put h.bm p _ (bcells_set _ _ _), blk_far h.bt (fun e => h.ne e.symm) _, blk_far h.ba e2 _, by rw [List.length_set]; exact h.lm, h.lt, h.gm, h.gt, h.ga, h.ne, h.no, ?_, h.inj, h.bel.setCell h.gm _⟩
 intro q ks hq
 obtain ⟨c, h1, h2, h3⟩ := h.own q ks hq
 exact ⟨c, h1, h2, h3.setCell (owns_ne h3 h.bm) _⟩
theorem Cr.sett (h : Cr w0 W g vN vD vO mb tb ab n s f) (p : Nat) (b : Bool) : Cr w0 (W.setCell ⟨tb, p, none⟩ (.bool b)) g vN vD vO mb tb ab n { s with t := s.t.set p b } f := by
 have e1 := blk_no h.blk h.bt (by decide)
 have e2 := blk_no h.ba h.bt (by decide)
 refine ⟨blk_far h.blk e1 _, h.ge, R_away_set h.ro rfl (Kd.R_ne h.ro h.bt (by decide)) p _, blk_far h.bm h.ne _, blk_put h.bt p _ (bcells_set _ _ _), blk_far h.ba e2 _, h.lm, by rw [List.length_set]; exact h.lt, h.gm, h.gt, h.ga, h.ne, h.no, ?_, h.inj, h.bel.setCell h.gt _⟩
 intro q ks hq
 obtain ⟨c, h1, h2, h3⟩ := h.own q ks hq
 exact ⟨c, h1, h2, h3.setCell (owns_ne h3 h.bt) _⟩
theorem Cr.putk {W1 : World} (h : Cr w0 W g vN vD vO mb tb ab n s f) (p b : Nat) (ks : List Int) (x : Int) (ha : s.a p = some ks) (hf : f p = some b) (hg : W.grownBy W1 (some b)) (ho : W1.ownsMap Tryz.prog 3 RB b (ks.length + 1) (keysI (ks ++ [x]))) :
 Cr w0 W1 g vN vD vO mb tb ab n { s with a := fun q => if q = p then some (ks ++ [x]) else s.a q } f := by
 obtain ⟨b', h1, h2, h3⟩ := h.own p ks ha
 rw [hf] at h1
 injection h1 with h1
 subst h1
 have kp : ∀ {q t : Nat} {y : Array Value}, W.heap[q]? = some (.cells y t (0, 0)) → W1.heap[q]? = some (.cells y t (0, 0)) := fun hq => blk_grown hq hg (fun e => by injection e with e; exact owns_ne h3 hq e.symm)
 have hne : ∀ k, some b = some k → some k ≠ vO.ownBlock := by
  intro k hk he
  injection hk with hk
  subst hk
  obtain ⟨cells, hc⟩ := Kd.R_typed h.ro b he.symm
  exact owns_ne h3 hc rfl
 refine ⟨kp h.blk, h.ge, Kd.R_grown2 h.ro rfl hg hne, kp h.bm, kp h.bt, kp h.ba, h.lm, h.lt, h.gm, h.gt, h.ga, h.ne, ?_, ?_, h.inj, Below.grown h.bel hg h.bel.size (fun k hk => by injection hk with hk; omega)⟩
 ·intro q hq
  by_cases e : q = p
  ·have hq : (if q = p then some (ks ++ [x]) else s.a q) = none := hq
   rw [if_pos e] at hq; cases hq
  ·have hq : (if q = p then some (ks ++ [x]) else s.a q) = none := hq
   rw [if_neg e] at hq; exact h.no q hq
 ·intro q l hq
  have hq : (if q = p then some (ks ++ [x]) else s.a q) = some l := hq
  by_cases e : q = p
  ·rw [if_pos e] at hq
   injection hq with hq
   subst hq e
   exact ⟨b, hf, h2, by rw [List.length_append, List.length_singleton]; exact ho⟩
  ·rw [if_neg e] at hq
   obtain ⟨c, h4, h5, h6⟩ := h.own q l hq
   exact ⟨c, h4, h5, h6.kept hg (fun e2 => by injection e2 with e2; subst e2; exact e (h.inj q p c h4 hf))⟩
end
theorem lit_inj {a b : Bool} (h : (DataW.lit (.bool a) : DataW Unit) = .lit (.bool b)) : b = a := by injection h with h; injection h with h; exact h.symm
def Frm (w w' : World) (g mb tb : Nat) (f : Nat → Option Nat) : Prop := ∀ q, q < w.heap.size → q ≠ g → q ≠ mb → q ≠ tb → (∀ p, f p ≠ some q) → w'.heap[q]? = w.heap[q]?
set_option maxHeartbeats 16000000 in
set_option maxRecDepth 100000 in
theorem right_deep {w0 w : World} {g mb tb ab n : Nat} {vN vD vO : Value} {s : CS} {f : Nat → Option Nat} (h : Cr w0 w g vN vD vO mb tb ab n s f) (hl : s.op.length ≤ 1000000) (i : Int) (hi : ¬ i = 0) (nm pa : Int) (v : ByteArray) (hp : pa ∈ s.op) (hd : 64 < (s.op.take (s.op.idxOf pa + 1)).length) :
 Calls Tryz.prog 47 #[.pointer (some ⟨g, 0, none⟩), .int .i64 i, .agg #[.int .i64 1, .int .i64 nm, .int .i64 pa, .string v]] w fun e w' => e = .returned (.bool false) ∧ Below w0.heap.size w0 w' := by
 have hbx := blk_new w (.cells #[.int .i64 1, .int .i64 nm, .int .i64 pa, .string v] 41)
 have hC := h.alloc (.cells #[.int .i64 1, .int .i64 nm, .int .i64 pa, .string v] 41)
 have hx0 := (blk_cell hbx 0).trans (show _ = some (Value.int .i64 1) from rfl)
 have hx1 := (blk_cell hbx 1).trans (show _ = some (Value.int .i64 nm) from rfl)
 have hx2 := (blk_cell hbx 2).trans (show _ = some (Value.int .i64 pa) from rfl)
 have hx3 := (blk_cell hbx 3).trans (show _ = some (Value.string v) from rfl)
 have di := beqI_f hi
 have HP := Lib.hid (place_yes hC hl 1 nm pa v hp)
 obtain ⟨L, hL⟩ : ∃ L, (s.op.take (s.op.idxOf pa + 1)).length = L := ⟨_, rfl⟩
 have HLL := Lib.hid hL
 have pd : ((64 : Int) < (L : Int)) = True := eq_true (by omega)
 have hgl := blk_lt h.blk
 have hb1 : ∀ w1 : World, (∀ k, k < (w.alloc (.cells #[.int .i64 1, .int .i64 nm, .int .i64 pa, .string v] 41)).heap.size → k ≠ g → w1.heap[k]? = (w.alloc (.cells #[.int .i64 1, .int .i64 nm, .int .i64 pa, .string v] 41)).heap[k]?) → w1.heap[w.heap.size]? = some (.cells #[.int .i64 1, .int .i64 nm, .int .i64 pa, .string v] 41 (0, 0)) := fun w1 hk => (hk _ (blk_lt hbx) (by omega)).trans hbx
 have HBX := Lib.hid hb1
 clear hbx h hC hl hp hi hd hL hgl hb1
 go_enter Tryz.func47, Tryz.ntmps47
 go_wp2_with (go_at_call 75; refine HP.out.mono ?_; rintro e w2 ⟨rfl, hk, u, hu⟩; have hbx2 := HBX.out w2 hk; have hy0 := (blk_cell hbx2 0).trans (show _ = some (Value.int .i64 1) from rfl); obtain ⟨A2, c2, rfl, -, -⟩ := Kd.R_reads hu.ro; have hz2 := hu.c2; rw [HLL.out] at hz2; have HU := Lib.hid hu; clear hu hk hbx2)
 first | go_ret | go_ret2 | go_ret3
 exact ⟨rfl, HU.out.bel⟩
theorem frm_two {w w1 W : World} {g mb tb p : Nat} {u1 u2 : Value} {f : Nat → Option Nat} (h : Frm w w1 g mb tb f) (hs : ∀ k, k < w.heap.size → W.heap[k]? = w1.heap[k]?) : Frm w ((W.setCell ⟨mb, p, none⟩ u1).setCell ⟨tb, p, none⟩ u2) g mb tb f := fun q h1 h2 h3 h4 h5 =>
 ((Below.heap_setCell _ _ _ q h4).trans (Below.heap_setCell _ _ _ q h3)).trans ((hs q h1).trans (h q h1 h2 h3 h4 h5))
set_option maxHeartbeats 16000000 in
set_option maxRecDepth 100000 in
theorem right_elem {w0 w : World} {g mb tb ab n P : Nat} {vN vD vO : Value} {s : CS} {f : Nat → Option Nat} (h : Cr w0 w g vN vD vO mb tb ab n s f) (hl : s.op.length ≤ 1000000) (i : Int) (hi : ¬ i = 0) (k nm : Int) (v : ByteArray) (hp : (P : Int) ∈ s.op) (hP : P < n)
 (k2 : ¬ k = 2) (k3 : ¬ k = 3) (hd : k = 1 → ¬ 64 < (s.op.take (s.op.idxOf (P : Int) + 1)).length) :
 Calls Tryz.prog 47 #[.pointer (some ⟨g, 0, none⟩), .int .i64 i, .agg #[.int .i64 k, .int .i64 nm, .int .i64 (P : Int), .string v]] w fun e w' => e = .returned (.bool true) ∧ Frm w w' g mb tb f ∧ ∃ vO', Cr w0 w' g vN vD vO' mb tb ab n { s with op := s.op.take (s.op.idxOf (P : Int) + 1), m := s.m.set P true, t := s.t.set P false } f := by
 have d2 := beqI_f k2
 have d3 := beqI_f k3
 have hbx := blk_new w (.cells #[.int .i64 k, .int .i64 nm, .int .i64 (P : Int), .string v] 41)
 have hC := h.alloc (.cells #[.int .i64 k, .int .i64 nm, .int .i64 (P : Int), .string v] 41)
 have hx0 := (blk_cell hbx 0).trans (show _ = some (Value.int .i64 k) from rfl)
 have hx1 := (blk_cell hbx 1).trans (show _ = some (Value.int .i64 nm) from rfl)
 have hx2 := (blk_cell hbx 2).trans (show _ = some (Value.int .i64 (P : Int)) from rfl)
 have hx3 := (blk_cell hbx 3).trans (show _ = some (Value.string v) from rfl)
 have di := beqI_f hi
 have HP := Lib.hid (place_yes hC hl k nm (P : Int) v hp)
 obtain ⟨L, hL⟩ : ∃ L, (s.op.take (s.op.idxOf (P : Int) + 1)).length = L := ⟨_, rfl⟩
 rw [hL] at hd
 have HLL := Lib.hid hL
 have p0 : ((0 : Int) ≤ (P : Int)) = True := eq_true (by omega)
 have p1 : ((P : Int) < (n : Int)) = True := eq_true (by omega)
 have HPn := Lib.hid hP
 have hgl := blk_lt h.blk
 have hfr1 : ∀ w1 : World, (∀ y : Nat, y < (w.alloc (.cells #[.int .i64 k, .int .i64 nm, .int .i64 (P : Int), .string v] 41)).heap.size → y ≠ g → w1.heap[y]? = (w.alloc (.cells #[.int .i64 k, .int .i64 nm, .int .i64 (P : Int), .string v] 41)).heap[y]?) → w1.heap[w.heap.size]? = some (.cells #[.int .i64 k, .int .i64 nm, .int .i64 (P : Int), .string v] 41 (0, 0)) ∧ Frm w w1 g mb tb f := fun w1 hk => ⟨(hk _ (blk_lt hbx) (by omega)).trans hbx, fun q h1 h2 _ _ _ => (hk q (by have := blk_lt hbx; omega) h2).trans (Below.heap_alloc w _ q h1)⟩
 have HBX := Lib.hid hfr1
 clear hbx h hC hl hp hi hL hgl hfr1 hP
 by_cases k1 : k = 1
 ·have hd := hd k1
  subst k1
  have d1 : ((1 : Int) == 1) = true := rfl
  have pd : ((64 : Int) < (L : Int)) = False := eq_false (by omega)
  go_enter Tryz.func47, Tryz.ntmps47
  go_wp2_with (go_at_call 75; refine HP.out.mono ?_; rintro e w2 ⟨rfl, hk, u, hu⟩; obtain ⟨hbx2, hfrm⟩ := HBX.out w2 hk; have hy0 := (blk_cell hbx2 0).trans (show _ = some (Value.int .i64 1) from rfl); have hy1 := (blk_cell hbx2 1).trans (show _ = some (Value.int .i64 nm) from rfl); have hy2 := (blk_cell hbx2 2).trans (show _ = some (Value.int .i64 (P : Int)) from rfl); obtain ⟨A2, c2, rfl, -, -⟩ := Kd.R_reads hu.ro; have hz2 := hu.c2; rw [HLL.out] at hz2; have hz3 := hu.c3; have hz4 := hu.c4; have hm := hu.cm P HPn.out; have ht := hu.ct P HPn.out; have hfm := hu.fm P; have hft := hu.ft P; have ht2 := (hu.setm P true).ct P HPn.out; have hft2 := (hu.setm P true).ft P; have hm2 := (hu.sett P false).cm P HPn.out; have hfm2 := (hu.sett P false).fm P; have HFR := Lib.hid hfrm; have HU := Lib.hid hu; clear hu hk hbx2 hfrm)
  go_region
  all_goals (try go_wp2)
  all_goals first | go_ret | go_ret2 | go_ret3
  all_goals first
   | exact ⟨rfl, frm_two HFR.out (fun _ _ => rfl), _, (HU.out.setm P true).sett P false⟩
   | exact ⟨rfl, frm_two HFR.out (fun _ _ => rfl), _, ((HU.out.setm P true).sett P false).drew⟩
 ·have d1 := beqI_f k1
  go_enter Tryz.func47, Tryz.ntmps47
  go_wp2_with (go_at_call 75; refine HP.out.mono ?_; rintro e w2 ⟨rfl, hk, u, hu⟩; obtain ⟨hbx2, hfrm⟩ := HBX.out w2 hk; have hy0 := (blk_cell hbx2 0).trans (show _ = some (Value.int .i64 k) from rfl); have hy1 := (blk_cell hbx2 1).trans (show _ = some (Value.int .i64 nm) from rfl); have hy2 := (blk_cell hbx2 2).trans (show _ = some (Value.int .i64 (P : Int)) from rfl); obtain ⟨A2, c2, rfl, -, -⟩ := Kd.R_reads hu.ro; have hz2 := hu.c2; rw [HLL.out] at hz2; have hz3 := hu.c3; have hz4 := hu.c4; have hm := hu.cm P HPn.out; have ht := hu.ct P HPn.out; have hfm := hu.fm P; have hft := hu.ft P; have ht2 := (hu.setm P true).ct P HPn.out; have hft2 := (hu.setm P true).ft P; have hm2 := (hu.sett P false).cm P HPn.out; have hfm2 := (hu.sett P false).fm P; have HFR := Lib.hid hfrm; have HU := Lib.hid hu; clear hu hk hbx2 hfrm)
  go_region
  all_goals (try go_wp2)
  all_goals first | go_ret | go_ret2 | go_ret3
  all_goals first
   | exact ⟨rfl, frm_two HFR.out (fun _ _ => rfl), _, (HU.out.setm P true).sett P false⟩
   | exact ⟨rfl, frm_two HFR.out (fun _ _ => rfl), _, ((HU.out.setm P true).sett P false).drew⟩
set_option maxHeartbeats 16000000 in
set_option maxRecDepth 100000 in
theorem right_text {w0 w : World} {g mb tb ab n P : Nat} {vN vD vO : Value} {s : CS} {f : Nat → Option Nat} (h : Cr w0 w g vN vD vO mb tb ab n s f) (hl : s.op.length ≤ 1000000) (i : Int) (hi : ¬ i = 0) (nm : Int) (v : ByteArray) (hp : (P : Int) ∈ s.op) (hP : P < n) (tv : Bool) (htv : s.t.getD P false = tv) :
 Calls Tryz.prog 47 #[.pointer (some ⟨g, 0, none⟩), .int .i64 i, .agg #[.int .i64 3, .int .i64 nm, .int .i64 (P : Int), .string v]] w fun e w' => e = .returned (.bool (!tv)) ∧ Frm w w' g mb tb f ∧ ∃ vO', Cr w0 w' g vN vD vO' mb tb ab n { s with op := s.op.take (s.op.idxOf (P : Int) + 1), m := s.m.set P true, t := s.t.set P true } f := by
 have hbx := blk_new w (.cells #[.int .i64 3, .int .i64 nm, .int .i64 (P : Int), .string v] 41)
 have hC := h.alloc (.cells #[.int .i64 3, .int .i64 nm, .int .i64 (P : Int), .string v] 41)
 have hx0 := (blk_cell hbx 0).trans (show _ = some (Value.int .i64 3) from rfl)
 have hx1 := (blk_cell hbx 1).trans (show _ = some (Value.int .i64 nm) from rfl)
 have hx2 := (blk_cell hbx 2).trans (show _ = some (Value.int .i64 (P : Int)) from rfl)
 have hx3 := (blk_cell hbx 3).trans (show _ = some (Value.string v) from rfl)
 have di := beqI_f hi
 have HP := Lib.hid (place_yes hC hl 3 nm (P : Int) v hp)
 obtain ⟨L, hL⟩ : ∃ L, (s.op.take (s.op.idxOf (P : Int) + 1)).length = L := ⟨_, rfl⟩
 have HLL := Lib.hid hL
 have p0 : ((0 : Int) ≤ (P : Int)) = True := eq_true (by omega)
 have p1 : ((P : Int) < (n : Int)) = True := eq_true (by omega)
 have HPn := Lib.hid hP
 have hgl := blk_lt h.blk
 have hfr1 : ∀ w1 : World, (∀ y : Nat, y < (w.alloc (.cells #[.int .i64 3, .int .i64 nm, .int .i64 (P : Int), .string v] 41)).heap.size → y ≠ g → w1.heap[y]? = (w.alloc (.cells #[.int .i64 3, .int .i64 nm, .int .i64 (P : Int), .string v] 41)).heap[y]?) → w1.heap[w.heap.size]? = some (.cells #[.int .i64 3, .int .i64 nm, .int .i64 (P : Int), .string v] 41 (0, 0)) ∧ Frm w w1 g mb tb f := fun w1 hk => ⟨(hk _ (blk_lt hbx) (by omega)).trans hbx, fun q h1 h2 _ _ _ => (hk q (by have := blk_lt hbx; omega) h2).trans (Below.heap_alloc w _ q h1)⟩
 have HBX := Lib.hid hfr1
 clear hbx h hC hl hp hi hL hgl hfr1 hP
 go_enter Tryz.func47, Tryz.ntmps47
 go_wp2_with (go_at_call 75; refine HP.out.mono ?_; rintro e w2 ⟨rfl, hk, u, hu⟩; obtain ⟨hbx2, hfrm⟩ := HBX.out w2 hk; have hy0 := (blk_cell hbx2 0).trans (show _ = some (Value.int .i64 3) from rfl); have hy1 := (blk_cell hbx2 1).trans (show _ = some (Value.int .i64 nm) from rfl); have hy2 := (blk_cell hbx2 2).trans (show _ = some (Value.int .i64 (P : Int)) from rfl); obtain ⟨A2, c2, rfl, -, -⟩ := Kd.R_reads hu.ro; have hz2 := hu.c2; rw [HLL.out] at hz2; have hz3 := hu.c3; have hz4 := hu.c4; have hm := hu.cm P HPn.out; have ht := hu.ct P HPn.out; rw [show ({ s with op := s.op.take (s.op.idxOf (P : Int) + 1) } : CS).t = s.t from rfl, htv] at ht; have hfm := hu.fm P; have hft := hu.ft P; have ht2 := (hu.setm P true).ct P HPn.out; have hft2 := (hu.setm P true).ft P; have hm2 := (hu.sett P true).cm P HPn.out; have hfm2 := (hu.sett P true).fm P; have HFR := Lib.hid hfrm; have HU := Lib.hid hu; clear hu hk hbx2 hfrm)
 go_region
 all_goals (try go_wp2)
 all_goals first | go_ret | go_ret2 | go_ret3
 all_goals first
  | exact ⟨rfl, frm_two HFR.out (fun _ _ => rfl), _, (HU.out.setm P true).sett P true⟩
  | exact ⟨rfl, frm_two HFR.out (fun _ _ => rfl), _, ((HU.out.setm P true).sett P true).drew⟩
set_option maxHeartbeats 16000000 in
set_option maxRecDepth 100000 in
theorem right_attr {w0 w : World} {g mb tb ab n P : Nat} {vN vD vO : Value} {s : CS} {f : Nat → Option Nat} (h : Cr w0 w g vN vD vO mb tb ab n s f) (hl : s.op.length ≤ 1000000) (i : Int) (hi : ¬ i = 0) (nm : Int) (v : ByteArray) (hp : (P : Int) ∈ s.op) (hP : P < n) (mv dv : Bool) (hmv : s.m.getD P false = mv) (ks : List Int) (hks : s.a P = some ks) (hdv : (if nm ∈ ks then tru else .lit (.bool false)) = (.lit (.bool dv) : DataW Unit)) (hkl : ks.length < maxLen) (hn0 : -9223372036854775808 ≤ nm) (hn1 : nm ≤ 9223372036854775807) :
 Calls Tryz.prog 47 #[.pointer (some ⟨g, 0, none⟩), .int .i64 i, .agg #[.int .i64 2, .int .i64 nm, .int .i64 (P : Int), .string v]] w fun e w' => e = .returned (.bool (!mv && !dv)) ∧ Frm w w' g mb tb f ∧ ∃ vO', Cr w0 w' g vN vD vO' mb tb ab n { s with op := s.op.take (s.op.idxOf (P : Int) + 1), a := fun q => if q = P then some (ks ++ [nm]) else s.a q } f := by
 have HKEY := Lib.hid (keyI nm hn0 hn1)
 have HDUP := Lib.hid hdv
 have HKS := Lib.hid hkl
 have hbx := blk_new w (.cells #[.int .i64 2, .int .i64 nm, .int .i64 (P : Int), .string v] 41)
 have hC := h.alloc (.cells #[.int .i64 2, .int .i64 nm, .int .i64 (P : Int), .string v] 41)
 have hx0 := (blk_cell hbx 0).trans (show _ = some (Value.int .i64 2) from rfl)
 have hx1 := (blk_cell hbx 1).trans (show _ = some (Value.int .i64 nm) from rfl)
 have hx2 := (blk_cell hbx 2).trans (show _ = some (Value.int .i64 (P : Int)) from rfl)
 have hx3 := (blk_cell hbx 3).trans (show _ = some (Value.string v) from rfl)
 have di := beqI_f hi
 have HP := Lib.hid (place_yes hC hl 2 nm (P : Int) v hp)
 obtain ⟨L, hL⟩ : ∃ L, (s.op.take (s.op.idxOf (P : Int) + 1)).length = L := ⟨_, rfl⟩
 have HLL := Lib.hid hL
 have p0 : ((0 : Int) ≤ (P : Int)) = True := eq_true (by omega)
 have p1 : ((P : Int) < (n : Int)) = True := eq_true (by omega)
 have HPn := Lib.hid hP
 have hgl := blk_lt h.blk
 have hfr1 : ∀ w1 : World, (∀ y : Nat, y < (w.alloc (.cells #[.int .i64 2, .int .i64 nm, .int .i64 (P : Int), .string v] 41)).heap.size → y ≠ g → w1.heap[y]? = (w.alloc (.cells #[.int .i64 2, .int .i64 nm, .int .i64 (P : Int), .string v] 41)).heap[y]?) → w1.heap[w.heap.size]? = some (.cells #[.int .i64 2, .int .i64 nm, .int .i64 (P : Int), .string v] 41 (0, 0)) ∧ Frm w w1 g mb tb f := fun w1 hk => ⟨(hk _ (blk_lt hbx) (by omega)).trans hbx, fun q h1 h2 _ _ _ => (hk q (by have := blk_lt hbx; omega) h2).trans (Below.heap_alloc w _ q h1)⟩
 have HBX := Lib.hid hfr1
 clear hbx h hC hl hp hi hL hgl hfr1 hP
 clear hdv hkl hn0 hn1
 have hfin : ∀ (w2 w3 : World) (b : Nat), Frm w w2 g mb tb f → f P = some b → w2.drew.drew.grownBy w3 (some b) → (∀ q, q < w.heap.size → q < w2.heap.size) → Frm w w3 g mb tb f := fun w2 w3 b h1 h2 h3 h4 q q1 q2 q3 q4 q5 => (h3.block q (h4 q q1) (fun e => q5 P (by rw [h2]; exact e.symm))).trans (h1 q q1 q2 q3 q4 q5)
 cases mv <;> cases dv
 all_goals
  go_enter Tryz.func47, Tryz.ntmps47
  go_wp2_with (go_at_call 75; refine HP.out.mono ?_; rintro e w2 ⟨rfl, hk, u, hu⟩; obtain ⟨hbx2, hfrm⟩ := HBX.out w2 hk; have hsz2 := Nat.le_of_lt (blk_lt hbx2); have hy0 := (blk_cell hbx2 0).trans (show _ = some (Value.int .i64 2) from rfl); have hy1 := (blk_cell hbx2 1).trans (show _ = some (Value.int .i64 nm) from rfl); have hy2 := (blk_cell hbx2 2).trans (show _ = some (Value.int .i64 (P : Int)) from rfl); obtain ⟨A2, c2, rfl, -, -⟩ := Kd.R_reads hu.ro; have hz2 := hu.c2; rw [HLL.out] at hz2; have hz3 := hu.c3; have hz5 := hu.c5; have hm := hu.cm P HPn.out; rw [show ({ s with op := s.op.take (s.op.idxOf (P : Int) + 1) } : CS).m = s.m from rfl, hmv] at hm; have hca := hu.ca P HPn.out; obtain ⟨b, hfb, hbw, hown⟩ := hu.own P ks hks; rw [hfb] at hca; obtain ⟨w3, hrun3, ho3, hg3⟩ := World.ownsMap.update (w := w2.drew.drew) (show w2.drew.drew.ownsMap Tryz.prog 3 RB b ks.length (keysI ks) from hown) KI Tryz.underlying80 HKS.out HKEY.out (plainElem_bool Tryz.underlying4 true); obtain ⟨vt, ps, hlook, hvt⟩ := World.ownsMap.lookup (w := w2.drew) (show w2.drew.ownsMap Tryz.prog 3 RB b ks.length (keysI ks) from hown) KI Tryz.underlying80 (Tryz.zeroValue4 _) (plainElem_bool Tryz.underlying4 false) HKEY.out; obtain ⟨bt, rfl, hbt⟩ := plain_bool_inv hvt; have hbt2 := (at_keysI nm false _ ks rfl).symm.trans hbt; rw [HDUP.out] at hbt2; obtain rfl := lit_inj hbt2; clear hbt hbt2 hvt; have hput : w3.ownsMap Tryz.prog 3 RB b (ks.length + 1) (keysI (ks ++ [nm])) := (by unfold keysI; rw [List.map_append, List.map_singleton, setOf_snoc]; exact ho3); have hCr3 := hu.drew.drew.putk P b ks nm hks hfb hg3 hput; have hz3' := hCr3.c3; have hm' := hCr3.cm P HPn.out; rw [show ({ s with op := s.op.take (s.op.idxOf (P : Int) + 1), a := fun q => if q = P then some (ks ++ [nm]) else s.a q } : CS).m = s.m from rfl, hmv] at hm'; have HG3 := Lib.hid hg3; have HC3 := Lib.hid hCr3; have HFB := Lib.hid hfb; clear ho3 hg3 hput hCr3 hown; have HFR := Lib.hid hfrm; have HSZ := Lib.hid (show w.heap.size ≤ w2.heap.size from hsz2); have HU := Lib.hid hu; clear hu hk hbx2 hfrm)
  go_region
  all_goals (try go_wp2)
  all_goals go_region
  all_goals (try go_wp2)
  all_goals first | go_ret | go_ret2 | go_ret3
  all_goals exact ⟨rfl, hfin _ _ _ HFR.out HFB.out HG3.out (fun q hq => Nat.lt_of_lt_of_le hq HSZ.out), _, HC3.out⟩
end Go.Proofs.YtlhhhlimjajnlaaGreat.X
end
section
set_option linter.unusedVariables false
set_option linter.unusedSimpArgs false
namespace Go.Proofs.YtlhhhlimjajnlaaGreat.X
open Go.RowKit Go.Maps Go.Proofs.YtlhhhlimjajnlaaGreat Go.Proofs.YtlhhhlimjajnlaaGreat.Q Go.Proofs.YtlhhhlimjajnlaaGreatW.PrintWords Go.Proofs.YtlhhhlimjajnlaaGreatW.PrintLast Go.Proofs.YtlhhhlimjajnlaaGreatW.PrintMore
structure CInv (i n : Nat) (s : CS) : Prop where
 op : ∀ z, z ∈ s.op → 0 ≤ z ∧ z < (i : Int) ∧ ∃ ks, s.a z.toNat = some ks
 len : s.op.length ≤ i
 keys : ∀ p ks, s.a p = some ks → p < i ∧ ks.length ≤ i
 lm : s.m.length = n
 lt : s.t.length = n
theorem right_inv {s s' : CS} {i n : Nat} {x : Nod} (h : CInv i n s) (hr : rightC s i x = some s') : (∀ z, z ∈ s'.op → 0 ≤ z ∧ z < (i : Int) ∧ ∃ ks, s'.a z.toNat = some ks) ∧ s'.op.length ≤ i ∧ (∀ p ks, s'.a p = some ks → p < i ∧ ks.length ≤ i + 1) ∧ s'.m.length = n ∧ s'.t.length = n := by
 unfold rightC at hr
 by_cases h0 : i = 0
 ·rw [if_pos h0] at hr
  split at hr
  ·obtain rfl := Option.some.inj hr
   exact ⟨h.op, h.len, fun p ks hp => by have := h.keys p ks hp; omega, h.lm, h.lt⟩
  ·cases hr
 ·rw [if_neg h0] at hr
  unfold placeP at hr
  by_cases hp : x.f2 ∈ s.op
  ·rw [if_pos hp] at hr
   simp only at hr
   obtain ⟨hp0, hp1, ks0, hk0⟩ := h.op _ hp
   have hop : ∀ z, z ∈ s.op.take (s.op.idxOf x.f2 + 1) → 0 ≤ z ∧ z < (i : Int) ∧ ∃ ks, s.a z.toNat = some ks := fun z hz => h.op z ((List.take_sublist _ _).subset hz)
   have hol : (s.op.take (s.op.idxOf x.f2 + 1)).length ≤ i := by rw [List.length_take]; have := h.len; omega
   split at hr
   ·cases hr
   split at hr
   ·split at hr
    ·cases hr
    ·obtain rfl := Option.some.inj hr
     refine ⟨fun z hz => ?_, hol, fun p ks hpk => ?_, h.lm, h.lt⟩
     ·obtain ⟨h1, h2, ks, h3⟩ := hop z hz
      refine ⟨h1, h2, ?_⟩
      show ∃ ks, (if z.toNat = x.f2.toNat then some ((s.a x.f2.toNat).getD [] ++ [x.f1]) else s.a z.toNat) = some ks
      split
      ·exact ⟨_, rfl⟩
      ·exact ⟨ks, h3⟩
     ·have hpk : (if p = x.f2.toNat then some ((s.a x.f2.toNat).getD [] ++ [x.f1]) else s.a p) = some ks := hpk
      split at hpk
      ·rename_i e
       have := (h.keys _ _ hk0)
       rw [hk0] at hpk
       obtain rfl := Option.some.inj hpk
       rw [e]
       refine ⟨this.1, ?_⟩
       show (ks0 ++ [x.f1]).length ≤ i + 1
       rw [List.length_append, List.length_singleton]; omega
      ·have := h.keys p ks hpk; omega
   split at hr
   ·split at hr
    ·cases hr
    ·obtain rfl := Option.some.inj hr
     exact ⟨hop, hol, fun p ks hpk => by have := h.keys p ks hpk; omega, by rw [List.length_set]; exact h.lm, by rw [List.length_set]; exact h.lt⟩
   ·obtain rfl := Option.some.inj hr
    exact ⟨hop, hol, fun p ks hpk => by have := h.keys p ks hpk; omega, by rw [List.length_set]; exact h.lm, by rw [List.length_set]; exact h.lt⟩
  ·rw [if_neg hp] at hr; cases hr
theorem open_inv {s : CS} {i n : Nat} {x : Nod} (h : (∀ z, z ∈ s.op → 0 ≤ z ∧ z < (i : Int) ∧ ∃ ks, s.a z.toNat = some ks) ∧ s.op.length ≤ i ∧ (∀ p ks, s.a p = some ks → p < i ∧ ks.length ≤ i + 1) ∧ s.m.length = n ∧ s.t.length = n) : CInv (i + 1) n (openC s i x) := by
 obtain ⟨h1, h2, h3, h4, h5⟩ := h
 unfold openC
 split
 ·refine ⟨fun z hz => ?_, zz38, fun p ks hp => ?_, h4, h5⟩
  ·show 0 ≤ z ∧ z < ((i + 1 : Nat) : Int) ∧ ∃ ks, (if z.toNat = i then some [] else s.a z.toNat) = some ks
   rcases List.mem_append.1 hz with hz | hz
   ·obtain ⟨a1, a2, ks, a3⟩ := h1 z hz
    refine ⟨a1, by omega, ?_⟩
    rw [if_neg (by omega)]; exact ⟨ks, a3⟩
   ·have := List.mem_singleton.1 hz
    subst this
    exact ⟨by omega, by omega, [], by rw [if_pos (by omega)]⟩
  ·have hp : (if p = i then some [] else s.a p) = some ks := hp
   split at hp
   ·rename_i e
    obtain rfl := Option.some.inj hp
    exact ⟨by omega, Nat.zero_le _⟩
   ·have := h3 p ks hp; omega
 ·exact ⟨fun z hz => by obtain ⟨a1, a2, a3⟩ := h1 z hz; exact ⟨a1, by omega, a3⟩, by omega, fun p ks hp => by have := h3 p ks hp; omega, h4, h5⟩
theorem zero_inv (n : Nat) : CInv 0 n (zeroC n) := ⟨fun z hz => (by cases hz), Nat.le_refl _, fun p ks hp => (by cases hp), List.length_replicate, List.length_replicate⟩
theorem right_none {w0 w : World} {g mb tb ab n i nn : Nat} {vN vD vO : Value} {s : CS} {f : Nat → Option Nat} (h : Cr w0 w g vN vD vO mb tb ab n s f) (hI : CInv i n s) (hin : i < n) (hn : n ≤ 5000) (hnn : nn ≤ 1000) (x : Nod) (hnm : namedP nn x = true) (hr : rightC s i x = none) :
 Calls Tryz.prog 47 #[.pointer (some ⟨g, 0, none⟩), .int .i64 i, .agg #[.int .i64 x.f0, .int .i64 x.f1, .int .i64 x.f2, .string x.f3]] w fun e w' => e = .returned (.bool false) ∧ Below w0.heap.size w0 w' := by
 have hl : s.op.length ≤ 1000000 := by have := hI.len; omega
 obtain ⟨k, nm, pa, v⟩ := x
 unfold rightC at hr
 simp only at hr ⊢
 by_cases h0 : i = 0
 ·subst h0
  rw [if_pos rfl] at hr
  refine (right_root h k nm pa v).mono ?_
  rintro e w' ⟨rfl, hb⟩
  have : ¬ (k = 1 ∧ pa = -1) := fun c => by rw [if_pos c] at hr; cases hr
  rw [decide_eq_false this]
  exact ⟨rfl, below_step h.bel hb⟩
 rw [if_neg h0] at hr
 have hi : ¬ ((i : Nat) : Int) = 0 := by omega
 unfold placeP at hr
 by_cases hp : pa ∈ s.op
 rotate_left
 ·refine (right_apart h hl i hi k nm pa v hp).mono ?_
  rintro e w' ⟨rfl, hb⟩
  exact ⟨rfl, below_step h.bel hb⟩
 rw [if_pos hp] at hr
 simp only at hr
 obtain ⟨hp0, hp1, ks, hks⟩ := hI.op _ hp
 obtain ⟨P, rfl⟩ := Int.eq_ofNat_of_zero_le hp0
 rw [Int.toNat_natCast] at hr hks
 by_cases hd : k = 1 ∧ 64 < (s.op.take (s.op.idxOf (P : Int) + 1)).length
 ·obtain ⟨rfl, hd⟩ := hd
  exact right_deep h hl i hi nm P v hp hd
 rw [if_neg hd] at hr
 by_cases k2 : k = 2
 ·subst k2
  rw [if_pos rfl, hks] at hr
  have hrange : 0 ≤ nm ∧ nm < (nn : Int) := by
   unfold namedP at hnm
   simp at hnm
   exact hnm
  have hkl : ks.length < maxLen := by have := (hI.keys P ks hks).2; unfold maxLen; omega
  by_cases hm : s.m.getD P false = true
  ·obtain ⟨dv, hdv⟩ : ∃ dv, (if nm ∈ ks then tru else .lit (.bool false)) = (.lit (.bool dv) : DataW Unit) := by split; exact ⟨true, rfl⟩; exact ⟨false, rfl⟩
   refine (right_attr h hl i hi nm v hp (by omega) true dv hm ks hks hdv hkl (by omega) (by omega)).mono ?_
   rintro e w' ⟨rfl, -, u, hu⟩
   exact ⟨rfl, hu.bel⟩
  ·have hmf : s.m.getD P false = false := by simpa using hm
   have hin2 : nm ∈ ks := by
    refine Classical.byContradiction fun c => ?_
    rw [if_neg (by rintro (e | e); exact hm e; exact c e)] at hr
    cases hr
   refine (right_attr h hl i hi nm v hp (by omega) false true hmf ks hks (by rw [if_pos hin2]) hkl (by omega) (by omega)).mono ?_
   rintro e w' ⟨rfl, -, u, hu⟩
   exact ⟨rfl, hu.bel⟩
 rw [if_neg k2] at hr
 by_cases k3 : k = 3
 ·subst k3
  rw [if_pos rfl] at hr
  have ht : s.t.getD P false = true := by
   refine Classical.byContradiction fun c => ?_
   rw [if_neg c] at hr; cases hr
  refine (right_text h hl i hi nm v hp (by omega) true ht).mono ?_
  rintro e w' ⟨rfl, -, u, hu⟩
  exact ⟨rfl, hu.bel⟩
 ·rw [if_neg k3] at hr; cases hr
theorem right_some {w0 w : World} {g mb tb ab n i nn : Nat} {vN vD vO : Value} {s s' : CS} {f : Nat → Option Nat} (h : Cr w0 w g vN vD vO mb tb ab n s f) (hI : CInv i n s) (hin : i < n) (hn : n ≤ 5000) (hnn : nn ≤ 1000) (x : Nod) (hnm : namedP nn x = true) (hr : rightC s i x = some s') :
 Calls Tryz.prog 47 #[.pointer (some ⟨g, 0, none⟩), .int .i64 i, .agg #[.int .i64 x.f0, .int .i64 x.f1, .int .i64 x.f2, .string x.f3]] w fun e w' => e = .returned (.bool true) ∧ Frm w w' g mb tb f ∧ ∃ vO', Cr w0 w' g vN vD vO' mb tb ab n s' f := by
 have hl : s.op.length ≤ 1000000 := by have := hI.len; omega
 obtain ⟨k, nm, pa, v⟩ := x
 unfold rightC at hr
 simp only at hr ⊢
 by_cases h0 : i = 0
 ·subst h0
  rw [if_pos rfl] at hr
  by_cases c : k = 1 ∧ pa = -1
  ·rw [if_pos c] at hr
   obtain rfl := Option.some.inj hr
   refine (right_root h k nm pa v).mono ?_
   rintro e w' ⟨rfl, hb⟩
   rw [decide_eq_true c]
   exact ⟨rfl, fun q h1 _ _ _ _ => hb.block q h1, _, h.below hb⟩
  ·rw [if_neg c] at hr; cases hr
 rw [if_neg h0] at hr
 have hi : ¬ ((i : Nat) : Int) = 0 := by omega
 unfold placeP at hr
 by_cases hp : pa ∈ s.op
 rotate_left
 ·rw [if_neg hp] at hr; cases hr
 rw [if_pos hp] at hr
 simp only at hr
 obtain ⟨hp0, hp1, ks, hks⟩ := hI.op _ hp
 obtain ⟨P, rfl⟩ := Int.eq_ofNat_of_zero_le hp0
 rw [Int.toNat_natCast] at hr hks
 by_cases hd : k = 1 ∧ 64 < (s.op.take (s.op.idxOf (P : Int) + 1)).length
 ·rw [if_pos hd] at hr; cases hr
 rw [if_neg hd] at hr
 by_cases k2 : k = 2
 ·subst k2
  rw [if_pos rfl, hks] at hr
  have hrange : 0 ≤ nm ∧ nm < (nn : Int) := by
   unfold namedP at hnm
   simp at hnm
   exact hnm
  have hkl : ks.length < maxLen := by have := (hI.keys P ks hks).2; unfold maxLen; omega
  by_cases c : s.m.getD P false = true ∨ nm ∈ (some ks).getD []
  ·rw [if_pos c] at hr; cases hr
  ·rw [if_neg c] at hr
   obtain rfl := Option.some.inj hr
   have hmf : s.m.getD P false = false := by simpa using fun e => c (Or.inl e)
   have hin2 : ¬ nm ∈ ks := fun e => c (Or.inr e)
   exact right_attr h hl i hi nm v hp (by omega) false false hmf ks hks (by rw [if_neg hin2]) hkl (by omega) (by omega)
 rw [if_neg k2] at hr
 by_cases k3 : k = 3
 ·subst k3
  rw [if_pos rfl] at hr
  by_cases c : s.t.getD P false = true
  ·rw [if_pos c] at hr; cases hr
  ·rw [if_neg c] at hr
   obtain rfl := Option.some.inj hr
   exact right_text h hl i hi nm v hp (by omega) false (by simpa using c)
 ·rw [if_neg k3] at hr
  obtain rfl := Option.some.inj hr
  exact right_elem h hl i hi k nm v hp (by omega) k2 k3 (fun e c => hd ⟨e, c⟩)
end Go.Proofs.YtlhhhlimjajnlaaGreat.X
end
section
set_option linter.unusedVariables false
set_option linter.unusedSimpArgs false
namespace Go.Proofs.YtlhhhlimjajnlaaGreat.X
open Go.RowKit Go.Maps Go.Proofs.YtlhhhlimjajnlaaGreat Go.Proofs.YtlhhhlimjajnlaaGreat.Q Go.Proofs.YtlhhhlimjajnlaaGreatW.PrintWords Go.Proofs.YtlhhhlimjajnlaaGreatW.PrintLast Go.Proofs.YtlhhhlimjajnlaaGreatW.PrintMore
attribute [local go_sem] max2_int min2_int max_two min_two   
theorem info_of {P : Program} {e : TypeId} {z : Value} {s b : Nat} (h : (P.info? e).map (fun i => (i.zero, i.size, i.bytes)) = some (some z, s, b)) : ∃ i, P.info? e = some i ∧ i.zero = some z ∧ i.size = s ∧ i.bytes = b := by
 cases hi : P.info? e with
 | none => rw [hi] at h; cases h
 | some i =>
  rw [hi] at h
  have h := Option.some.inj h
  injection h with h1 h2
  injection h2 with h2 h3
  exact ⟨i, rfl, h1, h2, h3⟩
theorem infoBool : (Tryz.prog.info? 4).map (fun i => (i.zero, i.size, i.bytes)) = some (some (.bool false), 1, 1) := by kernel_rfl
theorem infoMap : (Tryz.prog.info? 80).map (fun i => (i.zero, i.size, i.bytes)) = some (some (.map none), 1, 8) := by kernel_rfl
theorem made_one (v : Value) (n : Nat) : madeCells #[v] n = (List.replicate n v).toArray := by
 unfold madeCells
 apply Array.ext'
 simp only [Array.toList_map, Array.toList_range]
 apply List.ext_getElem?
 intro j
 rw [List.getElem?_map]
 by_cases hj : j < n
 ·rw [List.getElem?_range hj, List.getElem?_replicate, if_pos hj]
  simp [Nat.mod_one]
 ·rw [List.getElem?_eq_none (by rw [List.length_range]; omega), List.getElem?_replicate, if_neg hj]; rfl
theorem make_b (W : World) (n : Nat) (hn : n ≤ 5000) : (Instr.makeSlice 76 (.int .i64 n) (.int .i64 n)).run Tryz.prog W = .ok (.slice (some ⟨W.heap.size, 0, none⟩) n n) (W.alloc (.cells (bcells (List.replicate n false)) 4)) := by
 obtain ⟨i, hi, hz, hs, hb⟩ := info_of infoBool
 have := run_make (P := Tryz.prog) W 76 4 i (.bool false) Tryz.underlying76 hi hz .i64 .i64 n n (by omega) (Int.le_refl _) (by rw [hb]; omega) (by omega)
 rw [hs, Nat.mul_one, Int.toNat_natCast] at this
 have e : madeCells (Value.bool false).cells n = bcells (List.replicate n false) := by
  rw [show (Value.bool false).cells = #[.bool false] from rfl, made_one]
  unfold bcells
  rw [List.map_replicate]
 rw [e] at this
 exact this
theorem make_m (W : World) (n : Nat) (hn : n ≤ 5000) : (Instr.makeSlice 77 (.int .i64 n) (.int .i64 n)).run Tryz.prog W = .ok (.slice (some ⟨W.heap.size, 0, none⟩) n n) (W.alloc (.cells (mcells (fun _ => none) n) 80)) := by
 obtain ⟨i, hi, hz, hs, hb⟩ := info_of infoMap
 have := run_make (P := Tryz.prog) W 77 80 i (.map none) Tryz.underlying77 hi hz .i64 .i64 n n (by omega) (Int.le_refl _) (by rw [hb]; omega) (by omega)
 rw [hs, Nat.mul_one, Int.toNat_natCast] at this
 have e : madeCells (Value.map none).cells n = mcells (fun _ => none) n := by
  rw [show (Value.map none).cells = #[.map none] from rfl, made_one]
  have hl : List.replicate n (Value.map none) = (List.range n).map fun p => Value.map ((fun _ => none : Nat → Option Nat) p) := by
   apply List.ext_getElem?
   intro j
   rw [List.getElem?_map, List.getElem?_replicate]
   by_cases hj : j < n
   ·rw [if_pos hj, List.getElem?_range hj]; rfl
   ·rw [if_neg hj, List.getElem?_eq_none (by rw [List.length_range]; omega)]; rfl
  unfold mcells
  rw [hl]
 rw [e] at this
 exact this
end Go.Proofs.YtlhhhlimjajnlaaGreat.X
end
section
set_option linter.unusedVariables false
set_option linter.unusedSimpArgs false
namespace Go.Proofs.YtlhhhlimjajnlaaGreat.X
open Go.RowKit Go.Maps Go.Proofs.YtlhhhlimjajnlaaGreat Go.Proofs.YtlhhhlimjajnlaaGreat.Q Go.Proofs.YtlhhhlimjajnlaaGreatW.PrintWords Go.Proofs.YtlhhhlimjajnlaaGreatW.PrintLast Go.Proofs.YtlhhhlimjajnlaaGreatW.PrintMore
attribute [local go_sem] max2_int min2_int max_two min_two   
theorem owns_eq {W W1 : World} {b cnt : Nat} {D : DataW Unit} (h : W.ownsMap Tryz.prog 3 RB b cnt D) (he : W1.heap[b]? = W.heap[b]?) : W1.ownsMap Tryz.prog 3 RB b cnt D := by
 obtain ⟨es, clock, hb, hr⟩ := h
 exact ⟨es, clock, he.trans hb, hr⟩
section
variable {w0 W W1 : World} {g mb tb ab n : Nat} {vN vD vO u : Value} {s : CS} {f : Nat → Option Nat}
theorem Cr.fne (h : Cr w0 W g vN vD vO mb tb ab n s f) {q t : Nat} {x : Array Value} (hq : W.heap[q]? = some (.cells x t (0, 0))) (p : Nat) : f p ≠ some q := fun e => by
 cases ha : s.a p with
 | none => rw [h.no p ha] at e; cases e
 | some ks =>
  obtain ⟨b, h1, h2, h3⟩ := h.own p ks ha
  rw [e] at h1
  injection h1 with h1
  subst h1
  exact owns_ne h3 hq rfl
theorem Cr.flt (h : Cr w0 W g vN vD vO mb tb ab n s f) (p q : Nat) (e : f p = some q) : q < W.heap.size := by
 cases ha : s.a p with
 | none => rw [h.no p ha] at e; cases e
 | some ks =>
  obtain ⟨b, h1, h2, h3⟩ := h.own p ks ha
  rw [e] at h1
  injection h1 with h1
  subst h1
  exact h3.lt
theorem Cr.keepu {b cnt : Nat} {D : DataW Unit} (h : Cr w0 W g vN vD vO mb tb ab n s f) (hg : W.grownBy W1 (some b)) (hw : W.ownsMap Tryz.prog 3 RB b cnt D) (hf : ∀ p, f p ≠ some b) (hb : w0.heap.size ≤ b) : Cr w0 W1 g vN vD vO mb tb ab n s f := by
 have kp : ∀ {q t : Nat} {y : Array Value}, W.heap[q]? = some (.cells y t (0, 0)) → W1.heap[q]? = some (.cells y t (0, 0)) := fun hq => blk_grown hq hg (fun e => by injection e with e; exact owns_ne hw hq e.symm)
 have hne : ∀ k, some b = some k → some k ≠ vO.ownBlock := by
  intro k hk he
  injection hk with hk
  subst hk
  obtain ⟨cells, hc⟩ := Kd.R_typed h.ro b he.symm
  exact owns_ne hw hc rfl
 refine ⟨kp h.blk, h.ge, Kd.R_grown2 h.ro rfl hg hne, kp h.bm, kp h.bt, kp h.ba, h.lm, h.lt, h.gm, h.gt, h.ga, h.ne, h.no, ?_, h.inj, Below.grown h.bel hg h.bel.size (fun k hk => by injection hk with hk; omega)⟩
 intro q l hq
 obtain ⟨c, h4, h5, h6⟩ := h.own q l hq
 exact ⟨c, h4, h5, h6.kept hg (fun e2 => by injection e2 with e2; subst e2; exact hf q h4)⟩
theorem Cr.app (h : Cr w0 W g vN vD vO mb tb ab n s f) (hg : W.grownBy W1 vO.ownBlock) {l : List Int} (ho : Kd.R (Kd.int .i64) 3 W1 w0.heap.size (fun _ => True) u l) (hb : Below w0.heap.size w0 W1) :
 Cr w0 (W1.setCell ⟨g, 2, none⟩ u) g vN vD u mb tb ab n { s with op := l } f := by
 have nb := Kd.R_ne h.ro h.blk (by decide)
 have nm := Kd.R_ne h.ro h.bm (by decide)
 have nt := Kd.R_ne h.ro h.bt (by decide)
 have na := Kd.R_ne h.ro h.ba (by decide)
 have hk := blk_grown h.blk hg nb
 have e1 : mb ≠ g := fun e => blk_no h.blk h.bm (by decide) e.symm
 have e2 : tb ≠ g := fun e => blk_no h.blk h.bt (by decide) e.symm
 have e3 : ab ≠ g := fun e => blk_no h.blk h.ba (by decide) e.symm
 refine ⟨blk_set hk 2 _, h.ge, R_away_set ho rfl (Kd.R_ne ho hk (by decide)) 2 _, blk_far (blk_grown h.bm hg nm) e1 _, blk_far (blk_grown h.bt hg nt) e2 _, blk_far (blk_grown h.ba hg na) e3 _, h.lm, h.lt, h.gm, h.gt, h.ga, h.ne, h.no, ?_, h.inj, hb.setCell h.ge _⟩
 intro q l hq
 obtain ⟨c, h1, h2, h3⟩ := h.own q l hq
 refine ⟨c, h1, h2, (h3.kept hg ?_).setCell (owns_ne h3 h.blk) _⟩
 intro e
 obtain ⟨cells, hc⟩ := Kd.R_typed h.ro c e.symm
 exact owns_ne h3 hc rfl
theorem Cr.newk (h : Cr w0 W g vN vD vO mb tb ab n s f) (i : Nat) (hi : s.a i = none) :
 Cr w0 ((W.alloc (.map #[] 0)).setCell ⟨ab, i, none⟩ (.map (some W.heap.size))) g vN vD vO mb tb ab n { s with a := fun p => if p = i then some [] else s.a p } (fun p => if p = i then some W.heap.size else f p) := by
 have H := h.alloc (.map #[] 0)
 have hm : (W.alloc (.map #[] 0)).heap[W.heap.size]? = some (.map #[] 0) := Array.getElem?_push_size
 have e1 : g ≠ ab := fun e => blk_no h.blk h.ba (by decide) e
 have e2 : mb ≠ ab := fun e => blk_no h.ba h.bm (by decide) e.symm
 have e3 : tb ≠ ab := fun e => blk_no h.ba h.bt (by decide) e.symm
 refine ⟨blk_far H.blk e1 _, H.ge, R_away_set H.ro rfl (Kd.R_ne H.ro H.ba (by decide)) i _, blk_far H.bm e2 _, blk_far H.bt e3 _, blk_put H.ba i _ (mcells_set _ _ _ _), H.lm, H.lt, H.gm, H.gt, H.ga, H.ne, ?_, ?_, ?_, H.bel.setCell H.ga _⟩
 ·intro p hp
  have hp : (if p = i then some [] else s.a p) = none := hp
  show (if p = i then some W.heap.size else f p) = none
  by_cases e : p = i
  ·rw [if_pos e] at hp; cases hp
  ·rw [if_neg e] at hp ⊢; exact h.no p hp
 ·intro p ks hp
  have hp : (if p = i then some [] else s.a p) = some ks := hp
  show ∃ b, (if p = i then some W.heap.size else f p) = some b ∧ _
  by_cases e : p = i
  ·rw [if_pos e] at hp
   injection hp with hp
   subst hp
   refine ⟨W.heap.size, if_pos e, h.bel.size, ?_⟩
   have := World.ownsMap_made W Tryz.prog 3 RB
   exact this.setCell (fun e => by have := blk_lt h.ba; have e : W.heap.size = ab := e; omega) _
  ·rw [if_neg e] at hp
   obtain ⟨b, h1, h2, h3⟩ := H.own p ks hp
   exact ⟨b, by rw [if_neg e]; exact h1, h2, h3.setCell (owns_ne h3 H.ba) _⟩
 ·intro p q b hp hq
  have hp : (if p = i then some W.heap.size else f p) = some b := hp
  have hq : (if q = i then some W.heap.size else f q) = some b := hq
  by_cases e : p = i
  ·by_cases e' : q = i
   ·rw [e, e']
   ·rw [if_pos e] at hp
    rw [if_neg e'] at hq
    injection hp with hp
    have := h.flt q b hq; omega
  ·by_cases e' : q = i
   ·rw [if_pos e'] at hq
    rw [if_neg e] at hp
    injection hq with hq
    have := h.flt p b hp; omega
   ·rw [if_neg e] at hp
    rw [if_neg e'] at hq
    exact h.inj p q b hp hq
end
section
variable {w0 W W2 : World} {g mb tb ab n : Nat} {vN vD vO : Value} {s : CS} {f : Nat → Option Nat} {ops : Array Oper} {o : Oper} {a : Act} {Q : Exit → Act → World → Prop}
theorem Cr.list {rest : List Oper} (h : Cr w0 W g vN vD vO mb tb ab n s f) (hl : s.op.length ≤ 1000000) (x : Int) (p y : Operand) (hgd : o.guard = none)
 (ho : o.op = .call { callee := .builtin .append, args := #[p, y], argTypes := #[47, 47] }) (hs : a.eval p = vO) (hx : a.eval y = .slice (some ⟨W.heap.size, 0, none⟩) 1 1)
 (hW : W2 = W.alloc (.cells #[.int .i64 x] 3))
 (K : ∀ A1 c1 w1, Cr w0 (w1.setCell ⟨g, 2, none⟩ (.slice A1 (s.op.length + 1) c1)) g vN vD (.slice A1 (s.op.length + 1) c1) mb tb ab n { s with op := s.op ++ [x] } f → w1.cell? ⟨g, 2, none⟩ = some vO → w1.frozen? ⟨g, 2, none⟩ = false → W.grownBy w1 vO.ownBlock → wpList Tryz.prog ops Q rest (a.put o.dst (.slice A1 (s.op.length + 1) c1)) w1) :
 wpList Tryz.prog ops Q (o :: rest) a W2 := by
 subst hW
 refine Kd.R_append (Kd.int .i64) (w0 := w0) w0.heap.size hgd p y 47 3 (.int .i64 0) 8 ho Tryz.underlying47 infoInt rfl (by decide) (by omega) vO s.op x [.int .i64 x] (fun _ => True) (fun _ => False) hs hx rfl (fun _ hk => hk.elim) (fun _ _ => trivial) h.ro h.bel h.bel.size (by omega) ?_
 intro u w1 ho1 hb hg hat
 have hB := h.app hg ho1 hb
 have hk1 := blk_grown h.blk hg (Kd.R_ne h.ro h.blk (by decide))
 obtain ⟨A1, c1, rfl, -, -⟩ := Kd.R_reads ho1
 rw [show (s.op ++ [x]).length = s.op.length + 1 from by simp] at hB ⊢
 exact K A1 c1 w1 hB ((blk_cell hk1 2).trans rfl) (blk_frozen hk1 2) hg
end
end Go.Proofs.YtlhhhlimjajnlaaGreat.X
end
