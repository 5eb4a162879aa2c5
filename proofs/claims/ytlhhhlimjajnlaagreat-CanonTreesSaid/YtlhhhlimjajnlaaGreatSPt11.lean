/- Parts of the proof of canonTrees_holds, kept and merged by a program of mine (wip/tools/slim.py) out of my texts: ParB LexH ParC Ck -/
import Derived.Test.YtlhhhlimjajnlaaGreatSPt0
import Derived.WalkMore
import Derived.Test.YtlhhhlimjajnlaaGreatSPt9
import Derived.Test.YtlhhhlimjajnlaaGreatSPt10
section
set_option linter.unusedVariables false
set_option linter.unusedSimpArgs false
namespace Go.Proofs.YtlhhhlimjajnlaaGreat.X
open Go.RowKit Go.Proofs.YtlhhhlimjajnlaaGreat Go.Proofs.YtlhhhlimjajnlaaGreat.Q Go.Proofs.YtlhhhlimjajnlaaGreatW.PrintWords Go.Proofs.YtlhhhlimjajnlaaGreatW.PrintLast Go.Proofs.YtlhhhlimjajnlaaGreatW.PrintMore
attribute [local go_sem] max2_int min2_int max_two min_two   
set_option maxHeartbeats 8000000 in
set_option maxRecDepth 100000 in
theorem flush_c {w0 w : World} {g : Nat} {v1 v2 v3 : Value} {p : PS} (h : Bd w0 w g v1 v2 v3 p) (hl : p.n.length ≤ 1000000) (hl2 : p.s.length ≤ 1000000) (hl3 : p.o.length ≤ 1000000) (hx : p.x.size ≤ 4294967296) :
 Calls Tryz.prog 30 #[.pointer (some ⟨g, 0, none⟩)] w fun e w' => e = .returned (.tuple #[]) ∧ ∃ v1' v2', Bd w0 w' g v1' v2' v3 (flushP p) := by
 have hc3 := h.c3
 have hf3 := h.f 3
 have hS : Bd w0 (w.setCell ⟨g, 3, none⟩ (.string ⟨#[]⟩)) g v1 v2 v3 { p with x := ⟨#[]⟩ } := h.set { p with x := ⟨#[]⟩ } rfl rfl rfl 3 (.string ⟨#[]⟩) rfl
 have HS := Lib.hid hS
 have HL := Lib.hid hl
 have HL2 := Lib.hid hl2
 have HL3 := Lib.hid hl3
 by_cases c : p.x.data.toList = []
 ·have b1 : (p.x.toList == ([] : List UInt8)) = true := by rw [Lib.toList_data, c]; rfl
  have hF : flushP p = { p with x := ⟨#[]⟩ } := by unfold flushP; rw [if_pos c]
  rw [hF]
  have c' : p.x.toList = [] := by rw [Lib.toList_data, c]
  clear hS hl hl2 hl3
  go_enter Tryz.func30, Tryz.ntmps30
  go_wp2
  first | go_end0 | go_ret | ((try simp only [Exit.inBlock, Exit.then]); refine bodyPost_ret (results_none rfl _ _ _) rfl ?_)
  exact ⟨rfl, _, _, HS.out⟩
 ·have b1 : (p.x.toList == ([] : List UInt8)) = false := by rw [Lib.toList_data, beq_eq_false_iff_ne]; exact c
  have c' : ¬ p.x.toList = [] := by rw [Lib.toList_data]; exact c
  by_cases t : topP p.o < 0
  ·have b2 := eq_true t
   obtain ⟨K, hK⟩ : ∃ K, skipP p.x.data.toList 0 = K := ⟨_, rfl⟩
   have hSk : ∀ W, Calls Tryz.prog 59 #[.string p.x, .int .i64 0] W fun e w' => e = .returned (.int .i64 K) ∧ Below W.heap.size W w' := fun W => chars_Skip.calls p.x 0 K W (by unfold chars_Skip.f; rw [if_pos hx, hK])
   have hF : flushP p = { p with x := ⟨#[]⟩, wr := p.wr || decide (K < (p.x.size : Int)) } := by unfold flushP; rw [if_neg c, if_pos t, hK]
   rw [hF]
   cases hw : p.wr with
   | true =>
    have hc5 : w.cell? ⟨g, 5, none⟩ = some (.bool true) := by rw [h.c5, hw]
    have hf5 := h.f 5
    have hE : ∀ n, Bd w0 (((w.setCell ⟨g, 3, none⟩ (.string ⟨#[]⟩)).drewN n).setCell ⟨g, 5, none⟩ (.bool true)) g v1 v2 v3 { p with x := ⟨#[]⟩, wr := true } := fun n => (hS.drewN n).set { p with x := ⟨#[]⟩, wr := true } rfl rfl rfl 5 (.bool true) (by rw [hw]; rfl)
    have HE := Lib.hid hE
    rw [Bool.true_or]
    clear hS hE hl hl2 hl3 hw
    go_enter Tryz.func30, Tryz.ntmps30
    go_wp2_with (go_at_call 29; refine (top_c (w0 := w0) (g := g) (v1 := v1) (v2 := v2) (v3 := v3) (p := { p with x := ⟨#[]⟩ }) (by first | exact HS.out | exact HS.out.drew | exact HS.out.drewN _) HL3.out).mono ?_; rintro e w' ⟨rfl, n, rfl⟩)
    first | go_end0 | go_ret | ((try simp only [Exit.inBlock, Exit.then]); refine bodyPost_ret (results_none rfl _ _ _) rfl ?_)
    exact ⟨rfl, _, _, HE.out _⟩
   | false =>
    have hc5 : w.cell? ⟨g, 5, none⟩ = some (.bool false) := by rw [h.c5, hw]
    have hf5 := h.f 5
    rw [Bool.false_or]
    have HW := Lib.hid hw
    clear hS hl hl2 hl3 hw
    go_enter Tryz.func30, Tryz.ntmps30
    go_wp2_with (first | (go_at_call 29; refine (top_c (w0 := w0) (g := g) (v1 := v1) (v2 := v2) (v3 := v3) (p := { p with x := ⟨#[]⟩ }) (by first | exact HS.out | exact HS.out.drew | exact HS.out.drewN _) HL3.out).mono ?_; rintro e w' ⟨rfl, n, rfl⟩) | (go_at_call 59; refine (hSk _).mono ?_; rintro e w1 ⟨rfl, hb⟩; have H1 := Lib.hid (show Bd w0 w1 g v1 v2 v3 { p with x := ⟨#[]⟩ } from by first | exact HS.out.below hb | exact (HS.out.drewN _).below hb | exact (HS.out.drew).below hb); have hd5 := H1.out.c5; have he5 := H1.out.f 5; clear hb))
    first | go_end0 | go_ret | ((try simp only [Exit.inBlock, Exit.then]); refine bodyPost_ret (results_none rfl _ _ _) rfl ?_)
    exact ⟨rfl, _, _, H1.out.set { p with x := ⟨#[]⟩, wr := decide (K < (p.x.size : Int)) } rfl rfl rfl 5 (.bool (decide (K < (p.x.size : Int)))) (by rfl)⟩
  ·have b2 := eq_false t
   have hF : flushP p = putP { p with x := ⟨#[]⟩ } 3 (-1) p.x ⟨#[]⟩ := by unfold flushP; rw [if_neg c, if_neg t]
   rw [hF]
   clear hS hl hl2 hl3
   go_enter Tryz.func30, Tryz.ntmps30
   go_wp2_with (first | (go_at_call 29; refine (top_c (w0 := w0) (g := g) (v1 := v1) (v2 := v2) (v3 := v3) (p := { p with x := ⟨#[]⟩ }) (by first | exact HS.out | exact HS.out.drew | exact HS.out.drewN _) HL3.out).mono ?_; rintro e w' ⟨rfl, n, rfl⟩) | (go_at_call 57; refine (put_c (w0 := w0) (g := g) (v1 := v1) (v2 := v2) (v3 := v3) (p := { p with x := ⟨#[]⟩ }) (by first | exact HS.out | exact HS.out.drew | exact HS.out.drewN _) HL.out HL2.out HL3.out 3 (-1) 0 p.x ⟨#[]⟩).mono ?_; rintro e w' ⟨rfl, u1, u2, hu⟩))
   first | go_end0 | go_ret | ((try simp only [Exit.inBlock, Exit.then]); refine bodyPost_ret (results_none rfl _ _ _) rfl ?_)
   exact ⟨rfl, u1, u2, hu⟩
theorem flush_lens (p : PS) : (flushP p).n.length ≤ p.n.length + 1 ∧ (flushP p).s.length ≤ p.s.length + 1 ∧ (flushP p).o = p.o ∧ (flushP p).x = ⟨#[]⟩ := by
 unfold flushP
 split
 ·exact ⟨Nat.le_succ _, Nat.le_succ _, rfl, rfl⟩
 ·split
  ·exact ⟨Nat.le_succ _, Nat.le_succ _, rfl, rfl⟩
  ·refine ⟨?_, ?_, rfl, rfl⟩ <;> simp [putP]
set_option maxHeartbeats 16000000 in
set_option maxRecDepth 100000 in
theorem begin_c {w0 w : World} {g : Nat} {v1 v2 v3 : Value} {p : PS} (h : Bd w0 w g v1 v2 v3 p) (hl : p.n.length ≤ 900000) (hl2 : p.s.length ≤ 900000) (hl3 : p.o.length ≤ 900000) (hx : p.x.size ≤ 4294967296) (name : ByteArray) :
 Calls Tryz.prog 26 #[.pointer (some ⟨g, 0, none⟩), .string name] w fun e w' => e = .returned (.tuple #[]) ∧ ∃ v1' v2' v3', Bd w0 w' g v1' v2' v3' (beginP p name) := by
 have H := Lib.hid h
 obtain ⟨f1, f2, f3, f4⟩ := flush_lens p
 obtain ⟨q, hq⟩ : ∃ q, flushP p = q := ⟨_, rfl⟩
 have hfl := flush_c h (by omega) (by omega) (by omega) hx
 unfold beginP
 simp only
 rw [hq] at f1 f2 f3 f4 hfl ⊢
 rw [← f3] at hl3
 have HL := Lib.hid (show q.n.length ≤ 1000000 by omega)
 have HL2 := Lib.hid (show q.s.length ≤ 1000000 by omega)
 have HL3 := Lib.hid (show q.o.length ≤ 1000000 by omega)
 clear h hl hl2 f1 f2 f3 f4
 obtain ⟨b1, hb1⟩ : ∃ b1, (q.wr || (decide (topP q.o < 0) && decide (0 < q.n.length))) = b1 := ⟨_, rfl⟩
 obtain ⟨b2, hb2⟩ : ∃ b2, (q.dp || decide ((64 : Int) < q.o.length)) = b2 := ⟨_, rfl⟩
 rw [hb1, hb2]
 obtain ⟨L, hL⟩ : ∃ L, q.n.length + 1 = L := ⟨_, rfl⟩
 have e1 : IntKind.i64.wrap ((L : Int) - 1) = (q.n.length : Int) := by have := HL.out; rw [IntKind.wrap_i64]; omega
 have HLL := Lib.hid hL
 clear hL
 cases hw : q.wr <;> cases hdp : q.dp <;> by_cases ht : topP q.o < 0
 all_goals
  have HW := Lib.hid hw
  have HDP := Lib.hid hdp
  have b3 := ht
  rw [hw] at hb1
  rw [hdp] at hb2
  simp only [Bool.true_or, Bool.false_or, ht, decide_true, decide_false, Bool.true_and, Bool.false_and] at hb1 hb2
  subst hb1 hb2
  clear hw hdp
  go_enter Tryz.func26, Tryz.ntmps26
  go_wp2_with (first | (go_at_call 30; refine hfl.mono ?_; rintro e w1 ⟨rfl, u1, u2, hu⟩; obtain ⟨A1, c1, rfl, -, -⟩ := Kd.R_reads hu.r1; obtain ⟨A3, c3, rfl, -, -⟩ := Kd.R_reads hu.r3; have H1 := Lib.hid hu; have hd0 := hu.c0; have hd2 := hu.c2; have hd4 := hu.c4; have hd5 := hu.c5; have he4 := hu.f 4; have he5 := hu.f 5; rw [HW.out] at hd5; rw [HDP.out] at hd4; have HE := Lib.hid (show ∀ m (z1 z2 : Bool), Bd w0 (((w1.drewN m).setCell ⟨g, 5, none⟩ (.bool z1)).setCell ⟨g, 4, none⟩ (.bool z2)) g _ u2 _ { q with wr := z1, dp := z2 } from fun m z1 z2 => ((hu.drewN m).set { q with wr := z1 } rfl rfl rfl 5 (.bool z1) rfl).set { q with wr := z1, dp := z2 } rfl rfl rfl 4 (.bool z2) rfl); clear hu) | (go_at_call 29; refine (top_c (w0 := w0) (g := g) (p := q) (by first | exact H1.out | exact H1.out.drew | exact H1.out.drewN _) HL3.out).mono ?_; rintro e w2 ⟨rfl, n, rfl⟩) | (go_at_call 57; refine (put_c (w0 := w0) (g := g) (p := PS.mk q.n q.s q.o q.x _ _) (by first | exact HE.out _ _ _ | exact HE.out 0 _ _ | exact (HE.out _ _ _).drew) (by exact HL.out) (by exact HL2.out) (by exact HL3.out) 1 0 0 ⟨#[]⟩ name).mono ?_; rintro e w3 ⟨rfl, x1, x2, hv⟩; obtain ⟨B1, d1, rfl, -, -⟩ := Kd.R_reads hv.r1; have hg0 := hv.c0; have hg2 := hv.c2; have hgf := hv.f 2; have hga0 : ∀ o : Obj, (w3.alloc o).cell? ⟨g, 0, none⟩ = _ := fun o => (hv.below (below_alloc (Below.refl _ _) o)).c0; have hga : ∀ o : Obj, (w3.alloc o).cell? ⟨g, 2, none⟩ = _ := fun o => (hv.below (below_alloc (Below.refl _ _) o)).c2; have hlen : (q.n ++ [(⟨1, 0, topP q.o, ⟨#[]⟩⟩ : Nod)]).length = L := (by rw [← HLL.out]; simp); simp only [putP, hlen] at hg0 hga0 hga hg2; have H3 := Lib.hid hv; clear hv))
  go_region_law ((first | refine Bd.push3 (w0 := w0) (g := g) (p := PS.mk (q.n ++ [(⟨1, 0, topP q.o, ⟨#[]⟩⟩ : Nod)]) (q.s ++ [name]) q.o q.x _ _) H3.out (by exact HL3.out) (q.n.length : Int) (.tmp 49) (.tmp 56) (by rfl) (by rfl) (by rfl) (by rfl) (by rfl) ?_ | refine Bd.push3 (w0 := w0) (g := g) (p := PS.mk (q.n ++ [(⟨1, 0, topP q.o, ⟨#[]⟩⟩ : Nod)]) (q.s ++ [name]) q.o q.x _ _) H3.out.drew (by exact HL3.out) (q.n.length : Int) (.tmp 49) (.tmp 56) (by rfl) (by rfl) (by rfl) (by rfl) (by rfl) ?_); intro A4 c4 w4 hB hd0 he0 hkeep; have hB := Lib.hid hB; clear hkeep)
  all_goals
   first | go_end0 | go_ret | ((try simp only [Exit.inBlock, Exit.then]); refine bodyPost_ret (results_none rfl _ _ _) rfl ?_)
   exact ⟨rfl, _, _, _, hB.out⟩
end Go.Proofs.YtlhhhlimjajnlaaGreat.X
end
section
set_option linter.unusedVariables false
set_option linter.unusedSimpArgs false
namespace Go.Proofs.YtlhhhlimjajnlaaGreat.X
open Go.RowKit Go.Proofs.YtlhhhlimjajnlaaGreat Go.Proofs.YtlhhhlimjajnlaaGreat.Q Go.Proofs.YtlhhhlimjajnlaaGreatW.PrintWords Go.Proofs.YtlhhhlimjajnlaaGreatW.PrintLast Go.Proofs.YtlhhhlimjajnlaaGreatW.PrintMore
variable {w0 W : World} {g : Nat} {d : ByteArray} {a : Int} {ts : List Tok} {x : Bool}
theorem entersB (a : Array Value) (w : World) : Sem.run Tryz.prog (callFunc 77 a) w = .ok (.enter 77 a) w := by kernel_rfl
set_option maxHeartbeats 4000000 in
set_option maxRecDepth 100000 in
theorem begins_c (w : World) (h : Rd w0 w g d a ts x) (b : Nat) (hb : w.cell? ⟨b, 0, none⟩ = some (.pointer (some ⟨g, 0, none⟩))) (s : ByteArray) (h0 : 0 ≤ a) :
 Calls Tryz.prog 77 #[.string s, .pointer (some ⟨b, 0, none⟩)] w fun e w' => e = .returned (.bool (standsB d a s)) ∧ ∃ n, w' = w.drewN n := by
 have hc1 := h.c1
 have H := Lib.hid h
 have hP : ∀ W : World, Rd w0 W g d a ts x → Calls Tryz.prog 78 #[.pointer (some ⟨g, 0, none⟩), .int .i64 a, .string s] W fun e w' => e = .returned (.bool (standsB d a s)) ∧ Drawn0 W w' := fun W hW =>
  (stands_c W hW a s h0).mono fun e w' he => ⟨he.1, by obtain ⟨n, hn⟩ := he.2; exact ⟨n, hn⟩⟩
 clear h
 go_enter Tryz.func77, Tryz.ntmps77
 go_wp2_with (first | (go_at_call 78; (with_reducible refine (hP _ (by first | exact H.out | exact H.out.drewN _ | exact H.out.drew)).mono ?_); rintro e w' ⟨rfl, ⟨nd, rfl⟩⟩; (try first | exact ⟨rfl, _, World.drewN_drewN _ _ _⟩ | exact ⟨rfl, _, Eq.trans (World.drewN_drewN _ _ _) (congrArg (World.drewN _) (Nat.add_assoc _ _ _))⟩)))
 repeat (go_quiet (first | (go_at_call 78; (with_reducible refine (hP _ (by first | exact H.out | exact H.out.drewN _ | exact H.out.drew)).mono ?_); rintro e w' ⟨rfl, ⟨nd, rfl⟩⟩; (try first | exact ⟨rfl, _, World.drewN_drewN _ _ _⟩ | exact ⟨rfl, _, Eq.trans (World.drewN_drewN _ _ _) (congrArg (World.drewN _) (Nat.add_assoc _ _ _))⟩))); try go_wp2)
 go_ret
 exact ⟨rfl, _, rfl⟩
def nextK (d : ByteArray) (a : Int) : Nat :=
 if standsB d a ⟨#[60, 33, 45, 45]⟩ = true then 79
 else if standsB d a ⟨#[60, 33, 91, 67, 68, 65, 84, 65, 91]⟩ = true then 80
 else if standsB d a ⟨#[60, 47]⟩ = true then 81
 else if standsB d a ⟨#[60]⟩ = true then 82
 else 83
set_option maxHeartbeats 8000000 in
set_option maxRecDepth 100000 in
theorem next_c (w : World) (h : Rd w0 w g d a ts x) (h0 : 0 ≤ a) :
 Calls Tryz.prog 56 #[.pointer (some ⟨g, 0, none⟩)] w fun e w' => e = .returned (.func (.func (nextK d a)) #[.pointer (some ⟨g, 0, none⟩)] #[]) ∧ Below w.heap.size w w' := by
 have H := Lib.hid h
 have hE := entersB
 obtain ⟨k, hk⟩ : ∃ k, nextK d a = k := ⟨_, rfl⟩
 rw [hk]
 unfold nextK at hk
 obtain ⟨s1, hs1⟩ : ∃ s, standsB d a ⟨#[60, 33, 45, 45]⟩ = s := ⟨_, rfl⟩
 obtain ⟨s2, hs2⟩ : ∃ s, standsB d a ⟨#[60, 33, 91, 67, 68, 65, 84, 65, 91]⟩ = s := ⟨_, rfl⟩
 obtain ⟨s3, hs3⟩ : ∃ s, standsB d a ⟨#[60, 47]⟩ = s := ⟨_, rfl⟩
 obtain ⟨s4, hs4⟩ : ∃ s, standsB d a ⟨#[60]⟩ = s := ⟨_, rfl⟩
 rw [hs1, hs2, hs3, hs4] at hk
 clear h
 cases s1 with
 | true =>
  rw [if_pos rfl] at hk
  subst hk
  go_enter Tryz.func56, Tryz.ntmps56
  go_wp2_with (go_at_call 77; (with_reducible refine (begins_c (w0 := w0) (g := g) (d := d) (a := a) (ts := ts) (x := x) _ (zz22) w.heap.size (by simp [World.cell?_alloc_some]) _ h0).mono ?_); rintro e w' ⟨rfl, n_, rfl⟩)
  go_ret
  exact ⟨rfl, zz26⟩
 | false =>
 rw [if_neg (by decide)] at hk
 cases s2 with
 | true =>
  rw [if_pos rfl] at hk
  subst hk
  go_enter Tryz.func56, Tryz.ntmps56
  go_wp2_with (go_at_call 77; (with_reducible refine (begins_c (w0 := w0) (g := g) (d := d) (a := a) (ts := ts) (x := x) _ (zz22) w.heap.size (by simp [World.cell?_alloc_some]) _ h0).mono ?_); rintro e w' ⟨rfl, n_, rfl⟩)
  go_ret
  exact ⟨rfl, zz26⟩
 | false =>
 rw [if_neg (by decide)] at hk
 cases s3 with
 | true =>
  rw [if_pos rfl] at hk
  subst hk
  go_enter Tryz.func56, Tryz.ntmps56
  go_wp2_with (go_at_call 77; (with_reducible refine (begins_c (w0 := w0) (g := g) (d := d) (a := a) (ts := ts) (x := x) _ (zz22) w.heap.size (by simp [World.cell?_alloc_some]) _ h0).mono ?_); rintro e w' ⟨rfl, n_, rfl⟩)
  go_ret
  exact ⟨rfl, zz26⟩
 | false =>
 rw [if_neg (by decide)] at hk
 cases s4 with
 | true =>
  rw [if_pos rfl] at hk
  subst hk
  go_enter Tryz.func56, Tryz.ntmps56
  go_wp2_with (go_at_call 77; (with_reducible refine (begins_c (w0 := w0) (g := g) (d := d) (a := a) (ts := ts) (x := x) _ (zz22) w.heap.size (by simp [World.cell?_alloc_some]) _ h0).mono ?_); rintro e w' ⟨rfl, n_, rfl⟩)
  go_ret
  exact ⟨rfl, zz26⟩
 | false =>
  rw [if_neg (by decide)] at hk
  subst hk
  go_enter Tryz.func56, Tryz.ntmps56
  go_wp2_with (go_at_call 77; (with_reducible refine (begins_c (w0 := w0) (g := g) (d := d) (a := a) (ts := ts) (x := x) _ (zz22) w.heap.size (by simp [World.cell?_alloc_some]) _ h0).mono ?_); rintro e w' ⟨rfl, n_, rfl⟩)
  go_ret
  exact ⟨rfl, zz26⟩
end Go.Proofs.YtlhhhlimjajnlaaGreat.X
end
section
set_option linter.unusedVariables false
set_option linter.unusedSimpArgs false
namespace Go.Proofs.YtlhhhlimjajnlaaGreat.X
open Go.RowKit Go.Proofs.YtlhhhlimjajnlaaGreat Go.Proofs.YtlhhhlimjajnlaaGreat.Q Go.Proofs.YtlhhhlimjajnlaaGreatW.PrintWords Go.Proofs.YtlhhhlimjajnlaaGreatW.PrintLast Go.Proofs.YtlhhhlimjajnlaaGreatW.PrintMore
attribute [local go_sem] max2_int min2_int max_two min_two   
theorem flush_s (p : PS) : ∃ t, (flushP p).s = p.s ++ t := by
 unfold flushP
 split
 ·exact ⟨[], by simp⟩
 ·split
  ·exact ⟨[], by simp⟩
  ·exact ⟨_, rfl⟩
theorem Bd.cut3 {w0 W : World} {g n c : Nat} {v1 v2 : Value} {A : Option Addr} {p : PS} (h : Bd w0 W g v1 v2 (.slice A n c) p) (m : Nat) (hm : m ≤ p.o.length) :
 Bd w0 (W.setCell ⟨g, 2, none⟩ (.slice A m c)) g v1 v2 (.slice A m c) { p with o := p.o.take m } := by
 have r3 := Kd.R_take h.r3 hm
 exact ⟨blk_set h.1 2 _, h.ge, R_away_set h.r1 rfl h.n1 2 _, R_away_set h.r2 rfl h.n2 2 _, R_away_set r3 rfl (Kd.R_ne r3 h.1 (by decide)) 2 _, h.bel.setCell h.ge _⟩
set_option maxHeartbeats 16000000 in
set_option maxRecDepth 100000 in
theorem end_c {w0 w : World} {g : Nat} {v1 v2 v3 : Value} {p : PS} (h : Bd w0 w g v1 v2 v3 p) (hl : p.n.length ≤ 900000) (hl2 : p.s.length ≤ 900000) (hl3 : p.o.length ≤ 900000) (hx : p.x.size ≤ 4294967296) (hI : topP p.o < (p.s.length : Int)) (name : ByteArray) :
 Calls Tryz.prog 28 #[.pointer (some ⟨g, 0, none⟩), .string name] w fun e w' => e = .returned (.tuple #[]) ∧ ∃ v1' v2' v3', Bd w0 w' g v1' v2' v3' (endP p name) := by
 have H := Lib.hid h
 obtain ⟨f1, f2, f3, f4⟩ := flush_lens p
 obtain ⟨t5, f5⟩ := flush_s p
 obtain ⟨q, hq⟩ : ∃ q, flushP p = q := ⟨_, rfl⟩
 have hfl := flush_c h (by omega) (by omega) (by omega) hx
 unfold endP
 simp only
 rw [hq] at f1 f2 f3 f4 f5 hfl ⊢
 rw [← f3] at hl3 hI
 have hI2 : topP q.o < (q.s.length : Int) := by rw [f5, List.length_append]; omega
 have HL3 := Lib.hid (show q.o.length ≤ 1000000 by omega)
 clear h hl hl2 f1 f2 f3 f4 f5 hI
 by_cases ht : topP q.o < 0
 ·rw [if_pos (Or.inl ht)]
  have b1 := eq_true ht
  clear hI2
  go_enter Tryz.func28, Tryz.ntmps28
  go_wp2_with (first | (go_at_call 30; refine hfl.mono ?_; rintro e w1 ⟨rfl, u1, u2, hu⟩; have hd5 := hu.c5; have he5 := hu.f 5; have H1 := Lib.hid hu; clear hu) | (go_at_call 29; refine (top_c (w0 := w0) (g := g) (p := q) (by first | exact H1.out | exact H1.out.drew | exact H1.out.drewN _) HL3.out).mono ?_; rintro e w2 ⟨rfl, n, rfl⟩))
  first | go_end0 | go_ret | ((try simp only [Exit.inBlock, Exit.then]); refine bodyPost_ret (results_none rfl _ _ _) rfl ?_)
  exact ⟨rfl, _, _, _, (H1.out.drewN n).set { q with wr := true } rfl rfl rfl 5 (.bool true) rfl⟩
 ·have b1 := eq_false ht
  obtain ⟨T, hT⟩ : ∃ T, topP q.o = T := ⟨_, rfl⟩
  have hT0 : 0 ≤ T := by omega
  have hne : 0 < q.o.length := by
   cases ho : q.o with
   | nil => exfalso; apply ht; rw [ho]; decide
   | cons a b => simp
  rw [hT] at hI2 b1 ht ⊢
  have p0 := eq_true hT0
  have p1 := eq_true hI2
  obtain ⟨S, hS⟩ : ∃ S : ByteArray, q.s.getD T.toNat ⟨#[]⟩ = S := ⟨_, rfl⟩
  have HI := Lib.hid hI2
  have HT0 := Lib.hid hT0
  have HS := Lib.hid hS
  have HN := Lib.hid hne
  have HT := Lib.hid hT
  rw [hS]
  by_cases hd : S.data.toList = name.data.toList
  ·rw [if_neg (by rintro (h | h); exact ht h; exact h hd)]
   have b2 : (S.toList == name.toList) = true := by rw [Lib.toList_data, Lib.toList_data, hd]; exact beq_self_eq_true _
   have b3 : (S.toList != name.toList) = false := by rw [bne, b2]; rfl
   have b4 : S.toList = name.toList := by rw [Lib.toList_data, Lib.toList_data, hd]
   obtain ⟨L, hL⟩ : ∃ L, q.o.length = L := ⟨_, rfl⟩
   obtain ⟨M, hM⟩ : ∃ M, L = M + 1 := ⟨L - 1, by omega⟩
   have HM := Lib.hid (show q.o.length = M + 1 by omega)
   have e1 : IntKind.i64.wrap ((L : Int) - 1) = (M : Int) := by have := HL3.out; rw [IntKind.wrap_i64]; omega
   have HLL := Lib.hid hL
   have HLM := Lib.hid hM
   have hdl : q.o.dropLast = q.o.take M := by rw [List.dropLast_eq_take, HM.out, Nat.add_sub_cancel]
   rw [hdl]
   clear hdl hne hI2 hT0 hT hS hL hM
   go_enter Tryz.func28, Tryz.ntmps28
   go_wp2_with (first | (go_at_call 30; refine hfl.mono ?_; rintro e w1 ⟨rfl, u1, u2, hu⟩; obtain ⟨A2, c2, rfl, -, hC⟩ := Kd.R_reads hu.r2; obtain ⟨ad, rfl, hr⟩ := Kd.at_string hC T HT0.out HI.out; rw [show rdOf ByteArray.empty q.s T = S from HS.out] at hr; obtain ⟨A3, c3, rfl, hle3, -⟩ := Kd.R_reads hu.r3; have hd1 := hu.c1; have hd2 := hu.c2; have he2 := hu.f 2; rw [HLL.out] at hd2 hle3; have p2 : ((M : Int) ≤ (c3 : Int)) := (by have := HLM.out; omega); have p3 := eq_true p2; have H1 := Lib.hid hu; clear hu hC) | (go_at_call 29; refine (top_c (w0 := w0) (g := g) (p := q) (by first | exact H1.out | exact H1.out.drew | exact H1.out.drewN _) HL3.out).mono ?_; rw [HT.out]; rintro e w2 ⟨rfl, n, rfl⟩))
   go_region
   all_goals
    first | go_end0 | go_ret | ((try simp only [Exit.inBlock, Exit.then]); refine bodyPost_ret (results_none rfl _ _ _) rfl ?_)
    first
     | exact ⟨rfl, _, _, _, Bd.cut3 (by first | exact H1.out | exact H1.out.drewN _ | exact (H1.out.drewN _).drew) M (by have := HM.out; omega)⟩
     | exact ⟨rfl, _, _, _, Bd.cut3 (by first | exact (H1.out.drewN _).drew.drew | exact (H1.out.drewN _).drew.drew.drew) M (by have := HM.out; omega)⟩
  ·rw [if_pos (Or.inr hd)]
   have b2 : (S.toList == name.toList) = false := by rw [Lib.toList_data, Lib.toList_data, beq_eq_false_iff_ne]; exact hd
   have b3 : (S.toList != name.toList) = true := by rw [bne, b2]; rfl
   have b4 : ¬ S.toList = name.toList := by rw [Lib.toList_data, Lib.toList_data]; exact hd
   clear hne hI2 hT0 hT hS
   go_enter Tryz.func28, Tryz.ntmps28
   go_wp2_with (first | (go_at_call 30; refine hfl.mono ?_; rintro e w1 ⟨rfl, u1, u2, hu⟩; obtain ⟨A2, c2, rfl, -, hC⟩ := Kd.R_reads hu.r2; obtain ⟨ad, rfl, hr⟩ := Kd.at_string hC T HT0.out HI.out; rw [show rdOf ByteArray.empty q.s T = S from HS.out] at hr; have hd1 := hu.c1; have hd5 := hu.c5; have he5 := hu.f 5; have H1 := Lib.hid hu; clear hu hC) | (go_at_call 29; refine (top_c (w0 := w0) (g := g) (p := q) (by first | exact H1.out | exact H1.out.drew | exact H1.out.drewN _) HL3.out).mono ?_; rw [HT.out]; rintro e w2 ⟨rfl, n, rfl⟩))
   first | go_end0 | go_ret | ((try simp only [Exit.inBlock, Exit.then]); refine bodyPost_ret (results_none rfl _ _ _) rfl ?_)
   exact ⟨rfl, _, _, _, (H1.out.drewN n).set { q with wr := true } rfl rfl rfl 5 (.bool true) rfl⟩
end Go.Proofs.YtlhhhlimjajnlaaGreat.X
end
section
set_option linter.unusedVariables false
set_option linter.unusedSimpArgs false
namespace Go.Proofs.YtlhhhlimjajnlaaGreat.Ck
open Go.RowKit Go.Proofs.YtlhhhlimjajnlaaGreat Go.Proofs.YtlhhhlimjajnlaaGreat.Q Go.Proofs.YtlhhhlimjajnlaaGreatW.PrintWords
abbrev Nd := S41
abbrev nz : Nd := ⟨0, 0, 0, ⟨#[]⟩⟩
variable {κ : Type}
def kids (l : List (Nd × κ)) (p : Int) : List (Nd × κ) := l.filter fun c => decide (c.1.f2 = p)
def more (l : List (Nd × κ)) (p : Int) : Bool := (kids l p).any fun c => decide (¬ c.1.f0 = 2)
def textLast (l : List (Nd × κ)) (p : Int) : Bool := match (kids l p).getLast? with | some c => decide (c.1.f0 = 3) | none => false
def Path (l : List (Nd × κ)) (op : List Int) : Prop :=
 ∀ (j : Nat) (z : Int), op[j]? = some z → 0 ≤ z ∧ z < (l.length : Int) ∧ (∃ c, l[z.toNat]? = some c ∧ c.1.f0 = 1 ∧ c.1.f2 = if j = 0 then -1 else op.getD (j - 1) 0) ∧ (j = 0 → z = 0) ∧ (0 < j → op.getD (j - 1) 0 < z)
theorem Path.take {l : List (Nd × κ)} {op : List Int} (h : Path l op) (n : Nat) : Path l (op.take n) := by
 intro j z hz
 rw [List.getElem?_take] at hz
 split at hz
 ·rename_i hj
  obtain ⟨h1, h2, ⟨c, h3, h4, h5⟩, h6, h7⟩ := h j z hz
  have e : (op.take n).getD (j - 1) 0 = op.getD (j - 1) 0 := by
   rw [List.getD_eq_getElem?_getD, List.getD_eq_getElem?_getD, List.getElem?_take_of_lt (by omega)]
  exact ⟨h1, h2, ⟨c, h3, h4, by rw [e]; exact h5⟩, h6, fun hp => by rw [e]; exact h7 hp⟩
 ·cases hz
theorem Path.put {l : List (Nd × κ)} {op : List Int} (h : Path l op) (c : Nd × κ) : Path (l ++ [c]) op := by
 intro j z hz
 obtain ⟨h1, h2, ⟨d, h3, h4, h5⟩, h6, h7⟩ := h j z hz
 refine ⟨h1, by rw [List.length_append]; omega, ⟨d, ?_, h4, h5⟩, h6, h7⟩
 rw [List.getElem?_append_left (by omega)]; exact h3
theorem Path.begin {l : List (Nd × κ)} {op : List Int} (h : Path l op) (c : Nd × κ) (h0 : op = [] → l = []) (hc : c.1.f0 = 1) (hp : c.1.f2 = op.getLast?.getD (-1)) : Path (l ++ [c]) (op ++ [(l.length : Int)]) := by
 intro j z hz
 by_cases hj : j < op.length
 ·rw [List.getElem?_append_left hj] at hz
  obtain ⟨h1, h2, h3, h4, h5⟩ := h.put c j z hz
  have e : (op ++ [(l.length : Int)]).getD (j - 1) 0 = op.getD (j - 1) 0 := by
   rw [List.getD_eq_getElem?_getD, List.getD_eq_getElem?_getD, List.getElem?_append_left (by omega)]
  rw [e]; exact ⟨h1, h2, h3, h4, h5⟩
 ·rw [List.getElem?_append_right (by omega)] at hz
  have hj2 : j - op.length = 0 := by
   have := (List.getElem?_eq_some_iff.1 hz).1
   rw [List.length_singleton] at this; omega
  rw [hj2] at hz
  have hz : (l.length : Int) = z := Option.some.inj hz
  subst hz
  have hjl : j = op.length := by omega
  subst hjl
  refine ⟨by omega, by rw [List.length_append, List.length_singleton]; omega, ⟨c, ?_, hc, ?_⟩, ?_, ?_⟩
  ·rw [Int.toNat_natCast, List.getElem?_append_right (Nat.le_refl _), Nat.sub_self]; rfl
  ·rw [hp]
   rcases List.eq_nil_or_concat op with h' | ⟨pre, y, h'⟩
   ·rw [h']; rfl
   ·rw [h', List.concat_eq_append, List.getLast?_concat, List.length_append, List.length_singleton, if_neg (by omega), List.getD_eq_getElem?_getD, Nat.add_sub_cancel, List.getElem?_append_left (by rw [List.length_append, List.length_singleton]; omega), List.getElem?_append_right (Nat.le_refl _), Nat.sub_self]; rfl
  ·intro h'
   have : op = [] := List.eq_nil_of_length_eq_zero h'
   rw [h0 this]; rfl
  ·intro h'
   rcases List.eq_nil_or_concat op with h'' | ⟨pre, y, h''⟩
   ·rw [h''] at h'; exact absurd h' (by decide)
   ·have hy := h (op.length - 1) y (by rw [h'', List.concat_eq_append, List.length_append, List.length_singleton, Nat.add_sub_cancel, List.getElem?_append_right (Nat.le_refl _), Nat.sub_self]; rfl)
    have : (op ++ [(l.length : Int)]).getD (op.length - 1) 0 = y := by
     rw [List.getD_eq_getElem?_getD, List.getElem?_append_left (by omega)]
     rw [h'', List.concat_eq_append, List.length_append, List.length_singleton, Nat.add_sub_cancel, List.getElem?_append_right (Nat.le_refl _), Nat.sub_self]; rfl
    rw [this]; exact hy.2.1
theorem Path.lt {l : List (Nd × κ)} {op : List Int} (h : Path l op) : ∀ (d i : Nat) (a b : Int), op[i]? = some a → op[i + d + 1]? = some b → a < b
 | 0, i, a, b, ha, hb => by
  have := (h (i + 1) b hb).2.2.2.2 (by omega)
  rw [Nat.add_sub_cancel, List.getD_eq_getElem?_getD, ha] at this
  exact this
 | d + 1, i, a, b, ha, hb => by
  have hl := (List.getElem?_eq_some_iff.1 hb).1
  have hm : op[i + d + 1]? = some op[i + d + 1] := List.getElem?_eq_getElem (by omega)
  have h1 := h.lt d i a _ ha hm
  have h2 := (h (i + (d + 1) + 1) b hb).2.2.2.2 (by omega)
  rw [show i + (d + 1) + 1 - 1 = i + d + 1 from by omega, List.getD_eq_getElem?_getD, hm] at h2
  have h2 : op[i + d + 1] < b := h2
  omega
theorem Path.idx {l : List (Nd × κ)} {op : List Int} (h : Path l op) (j : Nat) (z : Int) (hz : op[j]? = some z) : op.idxOf z = j := by
 have hlt := (List.getElem?_eq_some_iff.1 hz).1
 have hmem : z ∈ op := List.mem_of_getElem? hz
 have h1 := List.idxOf_lt_length_of_mem hmem
 have h2 : op[op.idxOf z]? = some z := by rw [List.getElem?_eq_getElem h1, List.getElem_idxOf]
 rcases Nat.lt_trichotomy (op.idxOf z) j with c | c | c
 ·have := h.lt (j - op.idxOf z - 1) _ z z h2 (by rw [show op.idxOf z + (j - op.idxOf z - 1) + 1 = j from by omega]; exact hz)
  omega
 ·exact c
 ·have := h.lt (op.idxOf z - j - 1) _ z z hz (by rw [show j + (op.idxOf z - j - 1) + 1 = op.idxOf z from by omega]; exact h2)
  omega
variable [DecidableEq κ]
def twice (l : List (Nd × κ)) (p : Int) (k : κ) : Bool := (kids l p).any fun c => decide (c.1.f0 = 2) && decide (c.2 = k)
def right (l : List (Nd × κ)) (op : List Int) (m : Nd) (k : κ) : Option (List Int) :=
 if l = [] then (if m.f0 = 1 ∧ m.f2 = -1 then some [0] else none)
 else if m.f2 ∈ op then
  let o := op.take (op.idxOf m.f2 + 1)
  if m.f0 = 1 then (if 64 < o.length then none else some (o ++ [(l.length : Int)]))
  else if m.f0 = 2 then (if more l m.f2 = true ∨ twice l m.f2 k = true then none else some o)
  else if textLast l m.f2 = true then none else some o
 else none
def run (l : List (Nd × κ)) : List (Nd × κ) → List Int → Option (List (Nd × κ) × List Int)
 | [], op => some (l, op)
 | c :: r, op => match right l op c.1 c.2 with
  | none => none
  | some o => run (l ++ [c]) r o
def rows (l : List (Nd × κ)) : Option (List Int) := (run [] l []).map Prod.snd
theorem run_fst : ∀ (r l : List (Nd × κ)) (op : List Int) (x : List (Nd × κ) × List Int), run l r op = some x → x.1 = l ++ r
 | [], l, op, x, h => by obtain rfl := Option.some.inj h; simp
 | c :: r, l, op, x, h => by
  unfold run at h
  cases hr : right l op c.1 c.2 with
  | none => rw [hr] at h; cases h
  | some o =>
   rw [hr] at h
   rw [run_fst r _ _ _ h]; simp
theorem run_append : ∀ (r t l : List (Nd × κ)) (op : List Int), run l (r ++ t) op = (run l r op).bind fun x => run x.1 t x.2
 | [], t, l, op => rfl
 | c :: r, t, l, op => by
  rw [List.cons_append, run, run]
  cases hr : right l op c.1 c.2 with
  | none => rfl
  | some o => exact run_append r t _ _
theorem rows_snoc (l : List (Nd × κ)) (c : Nd × κ) (op : List Int) (h : rows l = some op) : rows (l ++ [c]) = right l op c.1 c.2 := by
 unfold rows at h ⊢
 rw [run_append]
 cases hr : run [] l [] with
 | none => rw [hr] at h; cases h
 | some x =>
  rw [hr] at h
  have h : x.2 = op := Option.some.inj h
  have h1 := run_fst _ _ _ _ hr
  rw [Option.bind_some, run, h, h1, List.nil_append]
  cases hq : right l op c.1 c.2 with
  | none => rfl
  | some o => rfl
theorem rows_take (l t : List (Nd × κ)) (op : List Int) (h : rows (l ++ t) = some op) : ∃ o, rows l = some o := by
 unfold rows at h ⊢
 rw [run_append] at h
 cases hr : run [] l [] with
 | none => rw [hr] at h; cases h
 | some x => exact ⟨x.2, rfl⟩
theorem rows_at (l t : List (Nd × κ)) (c : Nd × κ) (op : List Int) (h : rows (l ++ c :: t) = some op) : ∃ o o', rows l = some o ∧ right l o c.1 c.2 = some o' ∧ rows (l ++ [c]) = some o' := by
 obtain ⟨o, ho⟩ := rows_take l _ _ h
 rw [List.append_cons] at h
 obtain ⟨o', ho'⟩ := rows_take (l ++ [c]) t _ h
 exact ⟨o, o', ho, by rw [← rows_snoc l c o ho]; exact ho', ho'⟩
theorem right_path {l : List (Nd × κ)} {op o : List Int} {c : Nd × κ} (hp : Path l op) (hn : l = [] → op = []) (h : right l op c.1 c.2 = some o) : Path (l ++ [c]) o ∧ ¬ o = [] := by
 unfold right at h
 by_cases hl : l = []
 ·rw [if_pos hl] at h
  split at h
  ·rename_i hc
   obtain rfl := Option.some.inj h
   have := hp.begin c (fun _ => hl) hc.1 (by rw [hn hl]; exact hc.2)
   rw [hn hl, hl] at this
   rw [hl]; exact ⟨this, by simp⟩
  ·cases h
 ·rw [if_neg hl] at h
  by_cases hm : c.1.f2 ∈ op
  ·rw [if_pos hm] at h
   simp only at h
   have hlt := List.idxOf_lt_length_of_mem hm
   have hne : ¬ op.take (op.idxOf c.1.f2 + 1) = [] := by
    intro e
    have := congrArg List.length e
    rw [List.length_take, List.length_nil] at this; omega
   split at h
   ·rename_i h1
    split at h
    ·cases h
    ·obtain rfl := Option.some.inj h
     refine ⟨(hp.take _).begin c (fun e => absurd e hne) h1 ?_, by simp⟩
     rw [List.getLast?_eq_getElem?, List.length_take, Nat.min_eq_left (by omega), Nat.add_sub_cancel, List.getElem?_take_of_lt (by omega), List.getElem?_eq_getElem hlt, List.getElem_idxOf]; rfl
   ·split at h
    ·split at h
     ·cases h
     ·obtain rfl := Option.some.inj h
      exact ⟨(hp.take _).put c, hne⟩
    ·split at h
     ·cases h
     ·obtain rfl := Option.some.inj h
      exact ⟨(hp.take _).put c, hne⟩
  ·rw [if_neg hm] at h; cases h
theorem rows_path : ∀ (n : Nat) (l : List (Nd × κ)) (op : List Int), l.length = n → rows l = some op → Path l op ∧ (l = [] ↔ op = [])
 | 0, l, op, hn, h => by
  have : l = [] := List.eq_nil_of_length_eq_zero hn
  subst this
  obtain rfl := Option.some.inj h
  exact ⟨fun j z hz => by simp at hz, by simp⟩
 | n + 1, l, op, hn, h => by
  rcases List.eq_nil_or_concat l with h' | ⟨pre, c, h'⟩
  ·rw [h'] at hn; exact absurd hn (by simp)
  ·rw [List.concat_eq_append] at h'
   subst h'
   obtain ⟨o, o', h1, h2, h3⟩ := rows_at pre [] c op h
   rw [h3] at h
   obtain rfl := Option.some.inj h
   have hpre : pre.length = n := by rw [List.length_append, List.length_singleton] at hn; omega
   obtain ⟨p1, p2⟩ := rows_path n pre o hpre h1
   obtain ⟨r1, r2⟩ := right_path p1 p2.1 h2
   exact ⟨r1, by simp [r2]⟩
section
variable {κ : Type}
theorem kids_snoc (l : List (Nd × κ)) (c : Nd × κ) (p : Int) : kids (l ++ [c]) p = if c.1.f2 = p then kids l p ++ [c] else kids l p := by
 unfold kids
 rw [List.filter_append]
 by_cases h : c.1.f2 = p
 ·rw [if_pos h, List.filter_cons_of_pos (by simpa using h)]; rfl
 ·rw [if_neg h, List.filter_cons_of_neg (by simpa using h)]; simp
theorem text_snoc (l : List (Nd × κ)) (c : Nd × κ) (p : Int) : textLast (l ++ [c]) p = if c.1.f2 = p then decide (c.1.f0 = 3) else textLast l p := by
 unfold textLast
 rw [kids_snoc]
 by_cases h : c.1.f2 = p
 ·rw [if_pos h, if_pos h, List.getLast?_concat]
 ·rw [if_neg h, if_neg h]
variable [DecidableEq κ]
theorem rows_low (l : List (Nd × κ)) (op : List Int) (h : rows l = some op) (i : Nat) (c : Nd × κ) (hc : l[i]? = some c) :
 ∃ o o', rows (l.take i) = some o ∧ right (l.take i) o c.1 c.2 = some o' ∧ (i = 0 → c.1.f0 = 1 ∧ c.1.f2 = -1) ∧ (0 < i → 0 ≤ c.1.f2 ∧ c.1.f2 < (i : Int) ∧ c.1.f2 ∈ o ∧ ∃ d, l[c.1.f2.toNat]? = some d ∧ d.1.f0 = 1) := by
 obtain ⟨hi, rfl⟩ := List.getElem?_eq_some_iff.1 hc
 have hsp : l = l.take i ++ l[i] :: l.drop (i + 1) := by rw [List.getElem_cons_drop, List.take_append_drop]
 rw [hsp] at h
 obtain ⟨o, o', h1, h2, h3⟩ := rows_at _ _ _ _ h
 obtain ⟨p1, p2⟩ := rows_path _ _ _ rfl h1
 refine ⟨o, o', h1, h2, fun h0 => ?_, fun h0 => ?_⟩
 ·subst h0
  unfold right at h2
  rw [if_pos (by simp)] at h2
  split at h2
  ·rename_i hc; exact hc
  ·cases h2
 ·have hne : ¬ l.take i = [] := by
   intro e
   have := congrArg List.length e
   rw [List.length_take, List.length_nil] at this; omega
  unfold right at h2
  rw [if_neg hne] at h2
  by_cases hm : l[i].1.f2 ∈ o
  ·have hj := List.idxOf_lt_length_of_mem hm
   have hz : o[o.idxOf l[i].1.f2]? = some l[i].1.f2 := by rw [List.getElem?_eq_getElem hj, List.getElem_idxOf]
   obtain ⟨q1, q2, ⟨d, q3, q4, -⟩, -⟩ := p1 _ _ hz
   rw [List.length_take] at q2
   refine ⟨q1, by omega, hm, d, ?_, q4⟩
   rw [List.getElem?_take_of_lt (by omega)] at q3; exact q3
  ·rw [if_neg hm] at h2; cases h2
theorem kids_behind (l : List (Nd × κ)) (op : List Int) (h : rows l = some op) (p : Int) (hp : 0 ≤ p) (c : Nd × κ) (hc : c ∈ kids l p) : ∃ i : Nat, l[i]? = some c ∧ p < (i : Int) ∧ c.1.f2 = p := by
 unfold kids at hc
 rw [List.mem_filter] at hc
 obtain ⟨hm, hq⟩ := hc
 have hq : c.1.f2 = p := by simpa using hq
 obtain ⟨i, hi⟩ := List.mem_iff_getElem?.1 hm
 obtain ⟨o, o', -, -, r1, r2⟩ := rows_low l op h i c hi
 refine ⟨i, hi, ?_, hq⟩
 rcases Nat.eq_zero_or_pos i with h0 | h0
 ·have := (r1 h0).2; omega
 ·have := (r2 h0).2.1; omega
end
end Go.Proofs.YtlhhhlimjajnlaaGreat.Ck
end
