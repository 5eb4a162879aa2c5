/- Parts of the proof of canonParsed_holds, kept and merged by a program of mine (wip/tools/slim.py) out of my texts: ParB ParC P14c P14d P14g -/
import Derived.Test.YtlhhhlimjajnlaaGreatSPd0
import Derived.Test.YtlhhhlimjajnlaaGreatSPd9
import Derived.Test.YtlhhhlimjajnlaaGreatSPd10
section
set_option linter.unusedVariables false
set_option linter.unusedSimpArgs false
namespace Go.Proofs.YtlhhhlimjajnlaaGreat.X
open Go.RowKit Go.Proofs.YtlhhhlimjajnlaaGreat Go.Proofs.YtlhhhlimjajnlaaGreat.Q Go.Proofs.YtlhhhlimjajnlaaGreatW.PrintWords Go.Proofs.YtlhhhlimjajnlaaGreatW.PrintLast Go.Proofs.YtlhhhlimjajnlaaGreatW.PrintMore
attribute [local go_sem] max2_int min2_int max_two min_two   
set_option maxHeartbeats 8000000 in
set_option maxRecDepth 100000 in
theorem flush_c {w0 w : World} {g : Nat} {v1 v2 v3 : Value} {p : PS} (h : Bd w0 w g v1 v2 v3 p) (hl : p.n.length ≤ 1000000) (hl2 : p.s.length ≤ 1000000) (hl3 : p.o.length ≤ 1000000) (hx : p.x.size ≤ 4294967296) :
 Calls Tryz.prog 30 #[.pointer (some ⟨g, 0, none⟩)] w fun e w' => e = .returned (.tuple #[]) ∧ ∃ v1' v2', Bd w0 w' g v1' v2' v3 (flushP p) := by
 have hc3 := h.c3
 have hf3 := h.f 3
 have hS : Bd w0 (w.setCell ⟨g, 3, none⟩ (.string ⟨#[]⟩)) g v1 v2 v3 { p with x := ⟨#[]⟩ } := h.set { p with x := ⟨#[]⟩ } rfl rfl rfl 3 (.string ⟨#[]⟩) rfl
 have HS := Lib.hid hS
 have HL := Lib.hid hl
 have HL2 := Lib.hid hl2
 have HL3 := Lib.hid hl3
 by_cases c : p.x.data.toList = []
 ·have b1 : (p.x.toList == ([] : List UInt8)) = true := by rw [Lib.toList_data, c]; rfl
  have hF : flushP p = { p with x := ⟨#[]⟩ } := by unfold flushP; rw [if_pos c]
  rw [hF]
  have c' : p.x.toList = [] := by rw [Lib.toList_data, c]
  clear hS hl hl2 hl3
  go_enter Tryz.func30, Tryz.ntmps30
  go_wp2
  first | go_end0 | go_ret | ((try simp only [Exit.inBlock, Exit.then]); refine bodyPost_ret (results_none rfl _ _ _) rfl ?_)
  exact ⟨rfl, _, _, HS.out⟩
 ·have b1 : (p.x.toList == ([] : List UInt8)) = false := by rw [Lib.toList_data, beq_eq_false_iff_ne]; exact c
  have c' : ¬ p.x.toList = [] := by rw [Lib.toList_data]; exact c
  by_cases t : topP p.o < 0
  ·have b2 := eq_true t
   obtain ⟨K, hK⟩ : ∃ K, skipP p.x.data.toList 0 = K := ⟨_, rfl⟩
   have hSk : ∀ W, Calls Tryz.prog 59 #[.string p.x, .int .i64 0] W fun e w' => e = .returned (.int .i64 K) ∧ Below W.heap.size W w' := fun W => chars_Skip.calls p.x 0 K W (by unfold chars_Skip.f; rw [if_pos hx, hK])
   have hF : flushP p = { p with x := ⟨#[]⟩, wr := p.wr || decide (K < (p.x.size : Int)) } := by unfold flushP; rw [if_neg c, if_pos t, hK]
   rw [hF]
   cases hw : p.wr with
   | true =>
    have hc5 : w.cell? ⟨g, 5, none⟩ = some (.bool true) := by rw [h.c5, hw]
    have hf5 := h.f 5
    have hE : ∀ n, Bd w0 (((w.setCell ⟨g, 3, none⟩ (.string ⟨#[]⟩)).drewN n).setCell ⟨g, 5, none⟩ (.bool true)) g v1 v2 v3 { p with x := ⟨#[]⟩, wr := true } := fun n => (hS.drewN n).set { p with x := ⟨#[]⟩, wr := true } rfl rfl rfl 5 (.bool true) (by rw [hw]; rfl)
    have HE := Lib.hid hE
    rw [Bool.true_or]
    clear hS hE hl hl2 hl3 hw
    go_enter Tryz.func30, Tryz.ntmps30
    go_wp2_with (go_at_call 29; refine (top_c (w0 := w0) (g := g) (v1 := v1) (v2 := v2) (v3 := v3) (p := { p with x := ⟨#[]⟩ }) (by first | exact HS.out | exact HS.out.drew | exact HS.out.drewN _) HL3.out).mono ?_; rintro e w' ⟨rfl, n, rfl⟩)
    first | go_end0 | go_ret | ((try simp only [Exit.inBlock, Exit.then]); refine bodyPost_ret (results_none rfl _ _ _) rfl ?_)
    exact ⟨rfl, _, _, HE.out _⟩
   | false =>
    have hc5 : w.cell? ⟨g, 5, none⟩ = some (.bool false) := by rw [h.c5, hw]
    have hf5 := h.f 5
    rw [Bool.false_or]
    have HW := Lib.hid hw
    clear hS hl hl2 hl3 hw
    go_enter Tryz.func30, Tryz.ntmps30
    go_wp2_with (first | (go_at_call 29; refine (top_c (w0 := w0) (g := g) (v1 := v1) (v2 := v2) (v3 := v3) (p := { p with x := ⟨#[]⟩ }) (by first | exact HS.out | exact HS.out.drew | exact HS.out.drewN _) HL3.out).mono ?_; rintro e w' ⟨rfl, n, rfl⟩) | (go_at_call 59; refine (hSk _).mono ?_; rintro e w1 ⟨rfl, hb⟩; have H1 := Lib.hid (show Bd w0 w1 g v1 v2 v3 { p with x := ⟨#[]⟩ } from by first | exact HS.out.below hb | exact (HS.out.drewN _).below hb | exact (HS.out.drew).below hb); have hd5 := H1.out.c5; have he5 := H1.out.f 5; clear hb))
    first | go_end0 | go_ret | ((try simp only [Exit.inBlock, Exit.then]); refine bodyPost_ret (results_none rfl _ _ _) rfl ?_)
    exact ⟨rfl, _, _, H1.out.set { p with x := ⟨#[]⟩, wr := decide (K < (p.x.size : Int)) } rfl rfl rfl 5 (.bool (decide (K < (p.x.size : Int)))) (by rfl)⟩
  ·have b2 := eq_false t
   have hF : flushP p = putP { p with x := ⟨#[]⟩ } 3 (-1) p.x ⟨#[]⟩ := by unfold flushP; rw [if_neg c, if_neg t]
   rw [hF]
   clear hS hl hl2 hl3
   go_enter Tryz.func30, Tryz.ntmps30
   go_wp2_with (first | (go_at_call 29; refine (top_c (w0 := w0) (g := g) (v1 := v1) (v2 := v2) (v3 := v3) (p := { p with x := ⟨#[]⟩ }) (by first | exact HS.out | exact HS.out.drew | exact HS.out.drewN _) HL3.out).mono ?_; rintro e w' ⟨rfl, n, rfl⟩) | (go_at_call 57; refine (put_c (w0 := w0) (g := g) (v1 := v1) (v2 := v2) (v3 := v3) (p := { p with x := ⟨#[]⟩ }) (by first | exact HS.out | exact HS.out.drew | exact HS.out.drewN _) HL.out HL2.out HL3.out 3 (-1) 0 p.x ⟨#[]⟩).mono ?_; rintro e w' ⟨rfl, u1, u2, hu⟩))
   first | go_end0 | go_ret | ((try simp only [Exit.inBlock, Exit.then]); refine bodyPost_ret (results_none rfl _ _ _) rfl ?_)
   exact ⟨rfl, u1, u2, hu⟩
theorem flush_lens (p : PS) : (flushP p).n.length ≤ p.n.length + 1 ∧ (flushP p).s.length ≤ p.s.length + 1 ∧ (flushP p).o = p.o ∧ (flushP p).x = ⟨#[]⟩ := by
 unfold flushP
 split
 ·exact ⟨Nat.le_succ _, Nat.le_succ _, rfl, rfl⟩
 ·split
  ·exact ⟨Nat.le_succ _, Nat.le_succ _, rfl, rfl⟩
  ·refine ⟨?_, ?_, rfl, rfl⟩ <;> simp [putP]
set_option maxHeartbeats 16000000 in
set_option maxRecDepth 100000 in
theorem begin_c {w0 w : World} {g : Nat} {v1 v2 v3 : Value} {p : PS} (h : Bd w0 w g v1 v2 v3 p) (hl : p.n.length ≤ 900000) (hl2 : p.s.length ≤ 900000) (hl3 : p.o.length ≤ 900000) (hx : p.x.size ≤ 4294967296) (name : ByteArray) :
 Calls Tryz.prog 26 #[.pointer (some ⟨g, 0, none⟩), .string name] w fun e w' => e = .returned (.tuple #[]) ∧ ∃ v1' v2' v3', Bd w0 w' g v1' v2' v3' (beginP p name) := by
 have H := Lib.hid h
 obtain ⟨f1, f2, f3, f4⟩ := flush_lens p
 obtain ⟨q, hq⟩ : ∃ q, flushP p = q := ⟨_, rfl⟩
 have hfl := flush_c h (by omega) (by omega) (by omega) hx
 unfold beginP
 simp only
 rw [hq] at f1 f2 f3 f4 hfl ⊢
 rw [← f3] at hl3
 have HL := Lib.hid (show q.n.length ≤ 1000000 by omega)
 have HL2 := Lib.hid (show q.s.length ≤ 1000000 by omega)
 have HL3 := Lib.hid (show q.o.length ≤ 1000000 by omega)
 clear h hl hl2 f1 f2 f3 f4
 obtain ⟨b1, hb1⟩ : ∃ b1, (q.wr || (decide (topP q.o < 0) && decide (0 < q.n.length))) = b1 := ⟨_, rfl⟩
 obtain ⟨b2, hb2⟩ : ∃ b2, (q.dp || decide ((64 : Int) < q.o.length)) = b2 := ⟨_, rfl⟩
 rw [hb1, hb2]
 obtain ⟨L, hL⟩ : ∃ L, q.n.length + 1 = L := ⟨_, rfl⟩
 have e1 : IntKind.i64.wrap ((L : Int) - 1) = (q.n.length : Int) := by have := HL.out; rw [IntKind.wrap_i64]; omega
 have HLL := Lib.hid hL
 clear hL
 cases hw : q.wr <;> cases hdp : q.dp <;> by_cases ht : topP q.o < 0
 all_goals
  have HW := Lib.hid hw
  have HDP := Lib.hid hdp
  have b3 := ht
  rw [hw] at hb1
  rw [hdp] at hb2
  simp only [Bool.true_or, Bool.false_or, ht, decide_true, decide_false, Bool.true_and, Bool.false_and] at hb1 hb2
  subst hb1 hb2
  clear hw hdp
  go_enter Tryz.func26, Tryz.ntmps26
  go_wp2_with (first | (go_at_call 30; refine hfl.mono ?_; rintro e w1 ⟨rfl, u1, u2, hu⟩; obtain ⟨A1, c1, rfl, -, -⟩ := Kd.R_reads hu.r1; obtain ⟨A3, c3, rfl, -, -⟩ := Kd.R_reads hu.r3; have H1 := Lib.hid hu; have hd0 := hu.c0; have hd2 := hu.c2; have hd4 := hu.c4; have hd5 := hu.c5; have he4 := hu.f 4; have he5 := hu.f 5; rw [HW.out] at hd5; rw [HDP.out] at hd4; have HE := Lib.hid (show ∀ m (z1 z2 : Bool), Bd w0 (((w1.drewN m).setCell ⟨g, 5, none⟩ (.bool z1)).setCell ⟨g, 4, none⟩ (.bool z2)) g _ u2 _ { q with wr := z1, dp := z2 } from fun m z1 z2 => ((hu.drewN m).set { q with wr := z1 } rfl rfl rfl 5 (.bool z1) rfl).set { q with wr := z1, dp := z2 } rfl rfl rfl 4 (.bool z2) rfl); clear hu) | (go_at_call 29; refine (top_c (w0 := w0) (g := g) (p := q) (by first | exact H1.out | exact H1.out.drew | exact H1.out.drewN _) HL3.out).mono ?_; rintro e w2 ⟨rfl, n, rfl⟩) | (go_at_call 57; refine (put_c (w0 := w0) (g := g) (p := PS.mk q.n q.s q.o q.x _ _) (by first | exact HE.out _ _ _ | exact HE.out 0 _ _ | exact (HE.out _ _ _).drew) (by exact HL.out) (by exact HL2.out) (by exact HL3.out) 1 0 0 ⟨#[]⟩ name).mono ?_; rintro e w3 ⟨rfl, x1, x2, hv⟩; obtain ⟨B1, d1, rfl, -, -⟩ := Kd.R_reads hv.r1; have hg0 := hv.c0; have hg2 := hv.c2; have hgf := hv.f 2; have hga0 : ∀ o : Obj, (w3.alloc o).cell? ⟨g, 0, none⟩ = _ := fun o => (hv.below (below_alloc (Below.refl _ _) o)).c0; have hga : ∀ o : Obj, (w3.alloc o).cell? ⟨g, 2, none⟩ = _ := fun o => (hv.below (below_alloc (Below.refl _ _) o)).c2; have hlen : (q.n ++ [(⟨1, 0, topP q.o, ⟨#[]⟩⟩ : Nod)]).length = L := (by rw [← HLL.out]; simp); simp only [putP, hlen] at hg0 hga0 hga hg2; have H3 := Lib.hid hv; clear hv))
  go_region_law ((first | refine Bd.push3 (w0 := w0) (g := g) (p := PS.mk (q.n ++ [(⟨1, 0, topP q.o, ⟨#[]⟩⟩ : Nod)]) (q.s ++ [name]) q.o q.x _ _) H3.out (by exact HL3.out) (q.n.length : Int) (.tmp 49) (.tmp 56) (by rfl) (by rfl) (by rfl) (by rfl) (by rfl) ?_ | refine Bd.push3 (w0 := w0) (g := g) (p := PS.mk (q.n ++ [(⟨1, 0, topP q.o, ⟨#[]⟩⟩ : Nod)]) (q.s ++ [name]) q.o q.x _ _) H3.out.drew (by exact HL3.out) (q.n.length : Int) (.tmp 49) (.tmp 56) (by rfl) (by rfl) (by rfl) (by rfl) (by rfl) ?_); intro A4 c4 w4 hB hd0 he0 hkeep; have hB := Lib.hid hB; clear hkeep)
  all_goals
   first | go_end0 | go_ret | ((try simp only [Exit.inBlock, Exit.then]); refine bodyPost_ret (results_none rfl _ _ _) rfl ?_)
   exact ⟨rfl, _, _, _, hB.out⟩
theorem flush_s (p : PS) : ∃ t, (flushP p).s = p.s ++ t := by
 unfold flushP
 split
 ·exact ⟨[], by simp⟩
 ·split
  ·exact ⟨[], by simp⟩
  ·exact ⟨_, rfl⟩
theorem Bd.cut3 {w0 W : World} {g n c : Nat} {v1 v2 : Value} {A : Option Addr} {p : PS} (h : Bd w0 W g v1 v2 (.slice A n c) p) (m : Nat) (hm : m ≤ p.o.length) :
 Bd w0 (W.setCell ⟨g, 2, none⟩ (.slice A m c)) g v1 v2 (.slice A m c) { p with o := p.o.take m } := by
 have r3 := Kd.R_take h.r3 hm
 exact ⟨blk_set h.1 2 _, h.ge, R_away_set h.r1 rfl h.n1 2 _, R_away_set h.r2 rfl h.n2 2 _, R_away_set r3 rfl (Kd.R_ne r3 h.1 (by decide)) 2 _, h.bel.setCell h.ge _⟩
set_option maxHeartbeats 16000000 in
set_option maxRecDepth 100000 in
theorem end_c {w0 w : World} {g : Nat} {v1 v2 v3 : Value} {p : PS} (h : Bd w0 w g v1 v2 v3 p) (hl : p.n.length ≤ 900000) (hl2 : p.s.length ≤ 900000) (hl3 : p.o.length ≤ 900000) (hx : p.x.size ≤ 4294967296) (hI : topP p.o < (p.s.length : Int)) (name : ByteArray) :
 Calls Tryz.prog 28 #[.pointer (some ⟨g, 0, none⟩), .string name] w fun e w' => e = .returned (.tuple #[]) ∧ ∃ v1' v2' v3', Bd w0 w' g v1' v2' v3' (endP p name) := by
 have H := Lib.hid h
 obtain ⟨f1, f2, f3, f4⟩ := flush_lens p
 obtain ⟨t5, f5⟩ := flush_s p
 obtain ⟨q, hq⟩ : ∃ q, flushP p = q := ⟨_, rfl⟩
 have hfl := flush_c h (by omega) (by omega) (by omega) hx
 unfold endP
 simp only
 rw [hq] at f1 f2 f3 f4 f5 hfl ⊢
 rw [← f3] at hl3 hI
 have hI2 : topP q.o < (q.s.length : Int) := by rw [f5, List.length_append]; omega
 have HL3 := Lib.hid (show q.o.length ≤ 1000000 by omega)
 clear h hl hl2 f1 f2 f3 f4 f5 hI
 by_cases ht : topP q.o < 0
 ·rw [if_pos (Or.inl ht)]
  have b1 := eq_true ht
  clear hI2
  go_enter Tryz.func28, Tryz.ntmps28
  go_wp2_with (first | (go_at_call 30; refine hfl.mono ?_; rintro e w1 ⟨rfl, u1, u2, hu⟩; have hd5 := hu.c5; have he5 := hu.f 5; have H1 := Lib.hid hu; clear hu) | (go_at_call 29; refine (top_c (w0 := w0) (g := g) (p := q) (by first | exact H1.out | exact H1.out.drew | exact H1.out.drewN _) HL3.out).mono ?_; rintro e w2 ⟨rfl, n, rfl⟩))
  first | go_end0 | go_ret | ((try simp only [Exit.inBlock, Exit.then]); refine bodyPost_ret (results_none rfl _ _ _) rfl ?_)
  exact ⟨rfl, _, _, _, (H1.out.drewN n).set { q with wr := true } rfl rfl rfl 5 (.bool true) rfl⟩
 ·have b1 := eq_false ht
  obtain ⟨T, hT⟩ : ∃ T, topP q.o = T := ⟨_, rfl⟩
  have hT0 : 0 ≤ T := by omega
  have hne : 0 < q.o.length := by
   cases ho : q.o with
   | nil => exfalso; apply ht; rw [ho]; decide
   | cons a b => simp
  rw [hT] at hI2 b1 ht ⊢
  have p0 := eq_true hT0
  have p1 := eq_true hI2
  obtain ⟨S, hS⟩ : ∃ S : ByteArray, q.s.getD T.toNat ⟨#[]⟩ = S := ⟨_, rfl⟩
  have HI := Lib.hid hI2
  have HT0 := Lib.hid hT0
  have HS := Lib.hid hS
  have HN := Lib.hid hne
  have HT := Lib.hid hT
  rw [hS]
  by_cases hd : S.data.toList = name.data.toList
  ·rw [if_neg (by rintro (h | h); exact ht h; exact h hd)]
   have b2 : (S.toList == name.toList) = true := by rw [Lib.toList_data, Lib.toList_data, hd]; exact beq_self_eq_true _
   have b3 : (S.toList != name.toList) = false := by rw [bne, b2]; rfl
   have b4 : S.toList = name.toList := by rw [Lib.toList_data, Lib.toList_data, hd]
   obtain ⟨L, hL⟩ : ∃ L, q.o.length = L := ⟨_, rfl⟩
   obtain ⟨M, hM⟩ : ∃ M, L = M + 1 := ⟨L - 1, by omega⟩
   have HM := Lib.hid (show q.o.length = M + 1 by omega)
   have e1 : IntKind.i64.wrap ((L : Int) - 1) = (M : Int) := by have := HL3.out; rw [IntKind.wrap_i64]; omega
   have HLL := Lib.hid hL
   have HLM := Lib.hid hM
   have hdl : q.o.dropLast = q.o.take M := by rw [List.dropLast_eq_take, HM.out, Nat.add_sub_cancel]
   rw [hdl]
   clear hdl hne hI2 hT0 hT hS hL hM
   go_enter Tryz.func28, Tryz.ntmps28
   go_wp2_with (first | (go_at_call 30; refine hfl.mono ?_; rintro e w1 ⟨rfl, u1, u2, hu⟩; obtain ⟨A2, c2, rfl, -, hC⟩ := Kd.R_reads hu.r2; obtain ⟨ad, rfl, hr⟩ := Kd.at_string hC T HT0.out HI.out; rw [show rdOf ByteArray.empty q.s T = S from HS.out] at hr; obtain ⟨A3, c3, rfl, hle3, -⟩ := Kd.R_reads hu.r3; have hd1 := hu.c1; have hd2 := hu.c2; have he2 := hu.f 2; rw [HLL.out] at hd2 hle3; have p2 : ((M : Int) ≤ (c3 : Int)) := (by have := HLM.out; omega); have p3 := eq_true p2; have H1 := Lib.hid hu; clear hu hC) | (go_at_call 29; refine (top_c (w0 := w0) (g := g) (p := q) (by first | exact H1.out | exact H1.out.drew | exact H1.out.drewN _) HL3.out).mono ?_; rw [HT.out]; rintro e w2 ⟨rfl, n, rfl⟩))
   go_region
   all_goals
    first | go_end0 | go_ret | ((try simp only [Exit.inBlock, Exit.then]); refine bodyPost_ret (results_none rfl _ _ _) rfl ?_)
    first
     | exact ⟨rfl, _, _, _, Bd.cut3 (by first | exact H1.out | exact H1.out.drewN _ | exact (H1.out.drewN _).drew) M (by have := HM.out; omega)⟩
     | exact ⟨rfl, _, _, _, Bd.cut3 (by first | exact (H1.out.drewN _).drew.drew | exact (H1.out.drewN _).drew.drew.drew) M (by have := HM.out; omega)⟩
  ·rw [if_pos (Or.inr hd)]
   have b2 : (S.toList == name.toList) = false := by rw [Lib.toList_data, Lib.toList_data, beq_eq_false_iff_ne]; exact hd
   have b3 : (S.toList != name.toList) = true := by rw [bne, b2]; rfl
   have b4 : ¬ S.toList = name.toList := by rw [Lib.toList_data, Lib.toList_data]; exact hd
   clear hne hI2 hT0 hT hS
   go_enter Tryz.func28, Tryz.ntmps28
   go_wp2_with (first | (go_at_call 30; refine hfl.mono ?_; rintro e w1 ⟨rfl, u1, u2, hu⟩; obtain ⟨A2, c2, rfl, -, hC⟩ := Kd.R_reads hu.r2; obtain ⟨ad, rfl, hr⟩ := Kd.at_string hC T HT0.out HI.out; rw [show rdOf ByteArray.empty q.s T = S from HS.out] at hr; have hd1 := hu.c1; have hd5 := hu.c5; have he5 := hu.f 5; have H1 := Lib.hid hu; clear hu hC) | (go_at_call 29; refine (top_c (w0 := w0) (g := g) (p := q) (by first | exact H1.out | exact H1.out.drew | exact H1.out.drewN _) HL3.out).mono ?_; rw [HT.out]; rintro e w2 ⟨rfl, n, rfl⟩))
   first | go_end0 | go_ret | ((try simp only [Exit.inBlock, Exit.then]); refine bodyPost_ret (results_none rfl _ _ _) rfl ?_)
   exact ⟨rfl, _, _, _, (H1.out.drewN n).set { q with wr := true } rfl rfl rfl 5 (.bool true) rfl⟩
end Go.Proofs.YtlhhhlimjajnlaaGreat.X
end
section
set_option linter.unusedVariables false
set_option linter.unusedSimpArgs false
namespace Go.Proofs.YtlhhhlimjajnlaaGreat.P14
open Go.RowKit Go.Proofs.YtlhhhlimjajnlaaGreat Go.Proofs.YtlhhhlimjajnlaaGreat.Q Go.Proofs.YtlhhhlimjajnlaaGreatW.PrintWords Go.Proofs.YtlhhhlimjajnlaaGreat.X Go.Proofs.YtlhhhlimjajnlaaGreat.Ck
def prK (l : List Nod) : List (Nd × Int) := l.map fun x => (x, x.f1)
theorem prK_app (a b : List Nod) : prK (a ++ b) = prK a ++ prK b := List.map_append
theorem prK_len (a : List Nod) : (prK a).length = a.length := List.length_map _
theorem prK_nil {a : List Nod} : prK a = [] ↔ a = [] := List.map_eq_nil_iff
def atts (l : List (Nd × Int)) (p : Int) : List Int := ((kids l p).filter fun c => decide (c.1.f0 = 2)).map fun c => c.2
theorem twice_atts (l : List (Nd × Int)) (p k : Int) : twice l p k = decide (k ∈ atts l p) := by
 unfold twice atts
 rw [Bool.eq_iff_iff, List.any_eq_true, decide_eq_true_eq, List.mem_map]
 constructor
 ·rintro ⟨c, h1, h2⟩
  rw [Bool.and_eq_true, decide_eq_true_eq, decide_eq_true_eq] at h2
  exact ⟨c, List.mem_filter.2 ⟨h1, by simpa using h2.1⟩, h2.2⟩
 ·rintro ⟨c, h1, h2⟩
  rw [List.mem_filter, decide_eq_true_eq] at h1
  exact ⟨c, h1.1, by rw [Bool.and_eq_true, decide_eq_true_eq, decide_eq_true_eq]; exact ⟨h1.2, h2⟩⟩
theorem more_snoc (l : List (Nd × Int)) (c : Nd × Int) (p : Int) : more (l ++ [c]) p = if c.1.f2 = p then (more l p || decide (¬ c.1.f0 = 2)) else more l p := by
 unfold more
 rw [kids_snoc]
 by_cases h : c.1.f2 = p
 ·rw [if_pos h, if_pos h, List.any_append]; simp
 ·rw [if_neg h, if_neg h]
theorem atts_snoc (l : List (Nd × Int)) (c : Nd × Int) (p : Int) : atts (l ++ [c]) p = if c.1.f2 = p ∧ c.1.f0 = 2 then atts l p ++ [c.2] else atts l p := by
 unfold atts
 rw [kids_snoc]
 by_cases h : c.1.f2 = p
 ·rw [if_pos h, List.filter_append, List.map_append]
  by_cases h2 : c.1.f0 = 2
  ·rw [if_pos ⟨h, h2⟩]; simp [h2]
  ·rw [if_neg (fun e => h2 e.2)]; simp [h2]
 ·rw [if_neg h, if_neg (fun e => h e.1)]
theorem kids_far (l : List (Nd × Int)) (op : List Int) (h : rows l = some op) (p : Nat) (hp : l.length ≤ p) : kids l (p : Int) = [] := by
 cases hk : kids l (p : Int) with
 | nil => rfl
 | cons c t =>
  obtain ⟨i, h1, h2, -⟩ := kids_behind l op h (p : Int) (by omega) c (by rw [hk]; exact List.mem_cons_self ..)
  have := (List.getElem?_eq_some_iff.1 h1).1
  omega
structure CI (n : Nat) (P : List Nod) (s : CS) : Prop where
 r : rows (prK P) = some s.op
 ml : s.m.length = n
 tl : s.t.length = n
 m : ∀ p : Nat, s.m.getD p false = more (prK P) p
 t : ∀ p : Nat, s.t.getD p false = textLast (prK P) p
 a : ∀ p : Nat, (s.a p).getD [] = atts (prK P) p
theorem getD_set {α : Type} (l : List α) (i j : Nat) (x d : α) (h : i < l.length) : (l.set i x).getD j d = if i = j then x else l.getD j d := by
 rw [List.getD_eq_getElem?_getD, List.getD_eq_getElem?_getD, List.getElem?_set]
 by_cases e : i = j
 ·rw [if_pos e, if_pos e, if_pos h]; rfl
 ·rw [if_neg e, if_neg e]
theorem CI.zero (n : Nat) : CI n [] (zeroC n) := by
 refine ⟨rfl, by simp [zeroC], by simp [zeroC], fun p => ?_, fun p => ?_, fun p => rfl⟩
 ·show (List.replicate n false).getD p false = false
  rw [List.getD_eq_getElem?_getD, List.getElem?_replicate]; split <;> rfl
 ·show (List.replicate n false).getD p false = false
  rw [List.getD_eq_getElem?_getD, List.getElem?_replicate]; split <;> rfl
theorem place_some {op : List Int} {p : Int} (h : p ∈ op) : placeP op p = some (op.take (op.idxOf p + 1)) := if_pos h
theorem place_none {op : List Int} {p : Int} (h : ¬ p ∈ op) : placeP op p = none := if_neg h
theorem CI.step {n nn : Nat} {P : List Nod} {s : CS} {x : Nod} (h : CI n P s) (hn : P.length < n) (hx : x.f0 = 1 ∨ x.f0 = 2 ∨ x.f0 = 3) :
 match rightC s P.length x with
 | none => right (prK P) s.op x x.f1 = none
 | some s' => right (prK P) s.op x x.f1 = some (openC s' P.length x).op ∧ CI n (P ++ [x]) (openC s' P.length x) := by
 obtain ⟨p1, p2⟩ := rows_path _ _ _ rfl h.r
 have hap : prK (P ++ [x]) = prK P ++ [(x, x.f1)] := prK_app _ _
 have rowOf : ∀ o, right (prK P) s.op x x.f1 = some o → rows (prK (P ++ [x])) = some o := fun o e => by rw [hap, rows_snoc _ _ _ h.r]; exact e
 unfold rightC
 by_cases h0 : P.length = 0
 ·have hP : P = [] := List.eq_nil_of_length_eq_zero h0
  subst hP
  have hop : s.op = [] := p2.1 rfl
  rw [if_pos h0]
  by_cases c : x.f0 = 1 ∧ x.f2 = -1
  ·rw [if_pos c]
   have hr : right (prK []) s.op x x.f1 = some [0] := by
    unfold right; rw [if_pos (show prK [] = [] from rfl), if_pos c]
   have ho : (openC s ([] : List Nod).length x) = ⟨[0], s.m, s.t, fun p => if p = 0 then some [] else s.a p⟩ := by
    unfold openC; rw [if_pos c.1, hop]; rfl
   simp only
   rw [ho]
   refine ⟨hr, rowOf _ hr, h.ml, h.tl, fun p => ?_, fun p => ?_, fun p => ?_⟩
   ·rw [hap, more_snoc, if_neg (by show ¬ x.f2 = _; omega)]; exact h.m p
   ·rw [hap, text_snoc, if_neg (by show ¬ x.f2 = _; omega)]; exact h.t p
   ·rw [hap, atts_snoc, if_neg (by show ¬ (x.f2 = _ ∧ _); omega)]
    show (if p = 0 then some [] else s.a p).getD [] = _
    by_cases e : p = 0
    ·rw [if_pos e]; rfl
    ·rw [if_neg e]; exact h.a p
  ·rw [if_neg c]
   show right (prK []) s.op x x.f1 = none
   unfold right; rw [if_pos (show prK [] = [] from rfl), if_neg c]
 ·have hne : ¬ prK P = [] := fun e => h0 (by rw [prK_nil.1 e]; rfl)
  rw [if_neg h0]
  unfold right
  rw [if_neg hne]
  by_cases hm : x.f2 ∈ s.op
  ·rw [place_some hm, if_pos hm]
   simp only
   obtain ⟨j, hj⟩ := List.mem_iff_getElem?.1 hm
   obtain ⟨z1, z2, -⟩ := p1 j _ hj
   rw [prK_len] at z2
   have hcast : ((x.f2.toNat : Nat) : Int) = x.f2 := by omega
   have ht : x.f2.toNat < n := by omega
   have key : ∀ p : Nat, (x.f2 = (p : Int)) ↔ x.f2.toNat = p := fun p => by omega
   have hmore : s.m.getD x.f2.toNat false = more (prK P) x.f2 := by rw [h.m, hcast]
   have htext : s.t.getD x.f2.toNat false = textLast (prK P) x.f2 := by rw [h.t, hcast]
   have hatt : (s.a x.f2.toNat).getD [] = atts (prK P) x.f2 := by rw [h.a, hcast]
   have hrr : ∀ o, right (prK P) s.op x x.f1 = some o → rows (prK (P ++ [x])) = some o := rowOf
   unfold right at hrr
   rw [if_neg hne, if_pos hm] at hrr
   simp only at hrr
   rw [hmore, htext, hatt]
   by_cases k1 : x.f0 = 1
   ·rw [if_pos k1]
    rw [if_pos k1] at hrr
    by_cases kd : 64 < (s.op.take (s.op.idxOf x.f2 + 1)).length
    ·rw [if_pos ⟨k1, kd⟩, if_pos kd]
    ·rw [if_neg (fun e => kd e.2), if_neg (by omega), if_neg (by omega), if_neg kd]
     rw [if_neg kd] at hrr
     simp only
     unfold openC
     rw [if_pos k1]
     rw [prK_len] at hrr ⊢
     refine ⟨rfl, hrr _ rfl, (List.length_set ..).trans h.ml, (List.length_set ..).trans h.tl, fun p => ?_, fun p => ?_, fun p => ?_⟩
     ·rw [hap, more_snoc, getD_set _ _ _ _ _ (by rw [h.ml]; exact ht)]
      by_cases e : x.f2.toNat = p
      ·rw [if_pos e, if_pos ((key p).2 e)]; simp [k1]
      ·rw [if_neg e, if_neg (fun e' => e ((key p).1 e'))]; exact h.m p
     ·rw [hap, text_snoc, getD_set _ _ _ _ _ (by rw [h.tl]; exact ht)]
      by_cases e : x.f2.toNat = p
      ·rw [if_pos e, if_pos ((key p).2 e)]; simp [k1]
      ·rw [if_neg e, if_neg (fun e' => e ((key p).1 e'))]; exact h.t p
     ·rw [hap, atts_snoc, if_neg (by show ¬ (x.f2 = _ ∧ x.f0 = 2); omega)]
      show (if p = P.length then some [] else s.a p).getD [] = _
      by_cases e : p = P.length
      ·rw [if_pos e]
       unfold atts
       rw [kids_far _ _ h.r p (by rw [prK_len]; omega)]; rfl
      ·rw [if_neg e]; exact h.a p
   ·rw [if_neg k1, if_neg (fun e => k1 e.1)]
    rw [if_neg k1] at hrr
    by_cases k2 : x.f0 = 2
    ·rw [if_pos k2, if_pos k2]
     rw [if_pos k2] at hrr
     by_cases kd : more (prK P) x.f2 = true ∨ x.f1 ∈ atts (prK P) x.f2
     ·have kd' : more (prK P) x.f2 = true ∨ twice (prK P) x.f2 x.f1 = true := by rw [twice_atts, decide_eq_true_eq]; exact kd
      rw [if_pos kd, if_pos kd']
     ·have kd' : ¬ (more (prK P) x.f2 = true ∨ twice (prK P) x.f2 x.f1 = true) := by rw [twice_atts, decide_eq_true_eq]; exact kd
      rw [if_neg kd, if_neg kd']
      rw [if_neg kd'] at hrr
      simp only
      unfold openC
      rw [if_neg k1]
      refine ⟨rfl, hrr _ rfl, h.ml, h.tl, fun p => ?_, fun p => ?_, fun p => ?_⟩
      ·rw [hap, more_snoc]
       by_cases e : x.f2.toNat = p
       ·rw [if_pos ((key p).2 e)]
        show s.m.getD p false = _
        rw [h.m]; simp [k2]
       ·rw [if_neg (fun e' => e ((key p).1 e'))]; exact h.m p
      ·rw [hap, text_snoc]
       by_cases e : x.f2.toNat = p
       ·rw [if_pos ((key p).2 e)]
        show s.t.getD p false = _
        rw [h.t]
        have hall : ∀ c, c ∈ kids (prK P) (p : Int) → c.1.f0 = 2 := fun c hc => by
         have hn : more (prK P) x.f2 = false := by
          cases hmm : more (prK P) x.f2 with
          | false => rfl
          | true => exact absurd (.inl hmm) kd
         unfold more at hn
         rw [List.any_eq_false] at hn
         have := hn c (by rw [(key p).2 e]; exact hc)
         simpa using this
        unfold textLast
        cases hl : (kids (prK P) (p : Int)).getLast? with
        | none => simp [k2]
        | some c =>
         have := hall c (List.mem_of_getLast? hl)
         simp [this, k2]
       ·rw [if_neg (fun e' => e ((key p).1 e'))]; exact h.t p
      ·rw [hap, atts_snoc]
       show (if p = x.f2.toNat then some (atts (prK P) x.f2 ++ [x.f1]) else s.a p).getD [] = _
       by_cases e : x.f2.toNat = p
       ·rw [if_pos e.symm, if_pos ⟨(key p).2 e, k2⟩, (key p).2 e]; rfl
       ·rw [if_neg (fun e' => e e'.symm), if_neg (fun e' => e ((key p).1 e'.1))]; exact h.a p
    ·have k3 : x.f0 = 3 := by omega
     rw [if_neg k2, if_pos k3, if_neg k2]
     rw [if_neg k2] at hrr
     by_cases kd : textLast (prK P) x.f2 = true
     ·rw [if_pos kd, if_pos kd]
     ·rw [if_neg kd, if_neg kd]
      rw [if_neg kd] at hrr
      simp only
      unfold openC
      rw [if_neg k1]
      refine ⟨rfl, hrr _ rfl, (List.length_set ..).trans h.ml, (List.length_set ..).trans h.tl, fun p => ?_, fun p => ?_, fun p => ?_⟩
      ·rw [hap, more_snoc, getD_set _ _ _ _ _ (by rw [h.ml]; exact ht)]
       by_cases e : x.f2.toNat = p
       ·rw [if_pos e, if_pos ((key p).2 e)]; simp [k3]
       ·rw [if_neg e, if_neg (fun e' => e ((key p).1 e'))]; exact h.m p
      ·rw [hap, text_snoc, getD_set _ _ _ _ _ (by rw [h.tl]; exact ht)]
       by_cases e : x.f2.toNat = p
       ·rw [if_pos e, if_pos ((key p).2 e)]; simp [k3]
       ·rw [if_neg e, if_neg (fun e' => e ((key p).1 e'))]; exact h.t p
      ·rw [hap, atts_snoc, if_neg (by show ¬ (x.f2 = _ ∧ x.f0 = 2); omega)]; exact h.a p
  ·rw [place_none hm, if_neg hm]
def okNod (nn : Nat) (x : Nod) : Bool := namedP nn x && validL x.f3.data.toList
theorem named_kinds {nn : Nat} {x : Nod} (h : namedP nn x = true) : x.f0 = 1 ∨ x.f0 = 2 ∨ x.f0 = 3 := by
 unfold namedP at h
 split at h
 ·rename_i e; exact .inr (.inr e)
 ·simp only [Bool.and_eq_true, Bool.or_eq_true, decide_eq_true_eq] at h
  rcases h.2 with h | h
  ·exact .inr (.inl h)
  ·exact .inl h.1
theorem nodes_run (n nn : Nat) : ∀ (R P : List Nod) (s : CS), CI n P s → P.length + R.length ≤ n → (nodesC nn R P.length s).isSome = (R.all (okNod nn) && (run (prK P) (prK R) s.op).isSome)
 | [], P, s, h, _ => rfl
 | x :: R, P, s, h, hn => by
  have hn : P.length + (R.length + 1) ≤ n := hn
  show (match stepC nn s P.length x with | none => none | some s' => nodesC nn R (P.length + 1) s').isSome = _
  rw [List.all_cons]
  unfold stepC
  by_cases c : namedP nn x = true ∧ validL x.f3.data.toList = true
  ·rw [if_pos c]
   have hs := h.step (nn := nn) (x := x) (by omega) (named_kinds c.1)
   have ho : okNod nn x = true := by unfold okNod; rw [c.1, c.2]; rfl
   rw [ho, Bool.true_and]
   show _ = (R.all (okNod nn) && (run (prK P) ((x, x.f1) :: prK R) s.op).isSome)
   rw [run]
   simp only
   cases hr : rightC s P.length x with
   | none =>
    rw [hr] at hs
    simp only at hs
    rw [hs]
    simp
   | some s' =>
    rw [hr] at hs
    obtain ⟨h1, h2⟩ := hs
    rw [h1]
    have ih := nodes_run n nn R (P ++ [x]) _ h2 (zz25)
    rw [List.length_append, List.length_singleton, prK_app] at ih
    exact ih
  ·rw [if_neg c]
   have ho : okNod nn x = false := by
    unfold okNod
    cases h1 : namedP nn x with
    | false => rfl
    | true => cases h2 : validL x.f3.data.toList with
     | false => rfl
     | true => exact absurd ⟨h1, h2⟩ c
   rw [ho]; simp
theorem nodes_rows (nn : Nat) (D : List Nod) : (nodesC nn D 0 (zeroC D.length)).isSome = (D.all (okNod nn) && (rows (prK D)).isSome) := by
 have := nodes_run D.length nn D [] _ (CI.zero D.length) (by simp)
 have e : (rows (prK D)).isSome = (run [] (prK D) []).isSome := by unfold rows; cases run [] (prK D) [] <;> rfl
 rw [e]; exact this
end Go.Proofs.YtlhhhlimjajnlaaGreat.P14
end
section
set_option linter.unusedVariables false
set_option linter.unusedSimpArgs false
namespace Go.Proofs.YtlhhhlimjajnlaaGreat.P14
open Go.RowKit Go.Proofs.YtlhhhlimjajnlaaGreat Go.Proofs.YtlhhhlimjajnlaaGreat.Q Go.Proofs.YtlhhhlimjajnlaaGreatW.PrintWords Go.Proofs.YtlhhhlimjajnlaaGreat.X Go.Proofs.YtlhhhlimjajnlaaGreat.Ck
section
variable {κ : Type} [DecidableEq κ]
theorem rows_adj : ∀ (n : Nat) (l : List (Nd × κ)) (op : List Int), l.length = n → rows l = some op → ∀ (j : Nat) (y z : Int), op[j]? = some y → op[j + 1]? = some z → ∀ (k : Nat) (c : Nd × κ), z < (k : Int) → l[k]? = some c → ¬ c.1.f2 = y
 | 0, l, op, hn, h, j, y, z, hy, hz, k, c, hk, hc => by
  have : l = [] := List.eq_nil_of_length_eq_zero hn
  rw [this] at hc; simp at hc
 | n + 1, l, op, hn, h, j, y, z, hy, hz, k, c, hk, hc => by
  rcases List.eq_nil_or_concat l with h' | ⟨pre, d, h'⟩
  ·rw [h'] at hn; exact absurd hn (by simp)
  rw [List.concat_eq_append] at h'
  subst h'
  obtain ⟨o, o', h1, h2, h3⟩ := rows_at pre [] d op h
  rw [h3] at h
  obtain rfl := Option.some.inj h
  have hpre : pre.length = n := by rw [List.length_append, List.length_singleton] at hn; omega
  obtain ⟨p1, p2⟩ := rows_path n pre o hpre h1
  have ih := rows_adj n pre o hpre h1
  have hkl : k < pre.length + 1 := by have := (List.getElem?_eq_some_iff.1 hc).1; rw [List.length_append, List.length_singleton] at this; exact this
  unfold right at h2
  by_cases hl : pre = []
  ·rw [if_pos hl] at h2
   split at h2
   ·obtain rfl := Option.some.inj h2
    simp at hz
   ·cases h2
  ·rw [if_neg hl] at h2
   by_cases hm : d.1.f2 ∈ o
   ·rw [if_pos hm] at h2
    simp only at h2
    have hlt := List.idxOf_lt_length_of_mem hm
    have inT : ∀ {j : Nat} {y z : Int}, (o.take (o.idxOf d.1.f2 + 1))[j]? = some y → (o.take (o.idxOf d.1.f2 + 1))[j + 1]? = some z → z < (k : Int) → ¬ c.1.f2 = y := by
     intro j y z hy hz hk
     rw [List.getElem?_take] at hy hz
     split at hz
     ·rename_i hj
      rw [if_pos (by omega)] at hy
      by_cases hkn : k < pre.length
      ·rw [List.getElem?_append_left hkn] at hc
       exact ih j y z hy hz k c hk hc
      ·rw [List.getElem?_append_right (by omega), show k - pre.length = 0 from by omega] at hc
       obtain rfl : d = c := Option.some.inj hc
       intro e
       have := p1.idx j y hy
       rw [← e] at this
       omega
     ·cases hz
    have oT : o' = o.take (o.idxOf d.1.f2 + 1) → ¬ c.1.f2 = y := fun e => by rw [e] at hy hz; exact inT hy hz hk
    split at h2
    ·split at h2
     ·cases h2
     ·obtain rfl := Option.some.inj h2
      by_cases hj : j + 1 < (o.take (o.idxOf d.1.f2 + 1)).length
      ·rw [List.getElem?_append_left (by omega)] at hy
       rw [List.getElem?_append_left hj] at hz
       exact inT hy hz hk
      ·have hjl := (List.getElem?_eq_some_iff.1 hz).1
       rw [List.length_append, List.length_singleton] at hjl
       rw [List.getElem?_append_right (by omega), show j + 1 - (o.take (o.idxOf d.1.f2 + 1)).length = 0 from by omega] at hz
       have hz : (pre.length : Int) = z := Option.some.inj hz
       omega
    ·split at h2
     ·split at h2
      ·cases h2
      ·exact oT (Option.some.inj h2).symm
     ·split at h2
      ·cases h2
      ·exact oT (Option.some.inj h2).symm
   ·rw [if_neg hm] at h2; cases h2
end
theorem range_cut {f : Nat → List UInt8} {m : Nat} : ∀ {n : Nat}, m ≤ n → (∀ k, m ≤ k → k < n → f k = []) → (List.range n).flatMap f = (List.range m).flatMap f
 | 0, hm, _ => by rw [show m = 0 from by omega]
 | n + 1, hm, h => by
  by_cases e : m = n + 1
  ·rw [e]
  ·rw [List.range_succ, List.flatMap_append, range_cut (n := n) (by omega) (fun k h1 h2 => h k h1 (by omega))]
   simp [h n (by omega) (by omega)]
theorem range_same {f g : Nat → List UInt8} : ∀ {n : Nat}, (∀ k, k < n → f k = g k) → (List.range n).flatMap f = (List.range n).flatMap g
 | 0, _ => rfl
 | n + 1, h => by
  rw [List.range_succ, List.flatMap_append, List.flatMap_append, range_same (n := n) (fun k hk => h k (by omega))]
  simp [h n (by omega)]
theorem range_one (f : Nat → List UInt8) (n : Nat) : (List.range (n + 1)).flatMap f = (List.range n).flatMap f ++ f n := by
 rw [List.range_succ, List.flatMap_append]; simp
def attW (N : List ByteArray) (x : Nod) : List UInt8 := [32] ++ (N.getD x.f1.toNat ⟨#[]⟩).data.toList ++ [61, 34] ++ escL x.f3.data.toList ++ [34]
def attK (N : List ByteArray) (D : List Nod) (i : Nat) (k : Nat) : List UInt8 := if (D.getD k nz).f2 = (i : Int) ∧ (D.getD k nz).f0 = 2 then attW N (D.getD k nz) else []
def bodK (g : Nat → List UInt8) (D : List Nod) (i : Nat) (k : Nat) : List UInt8 := if (D.getD k nz).f2 = (i : Int) ∧ ¬ (D.getD k nz).f0 = 2 then (if (D.getD k nz).f0 = 3 then escL (D.getD k nz).f3.data.toList else g k) else []
def headE (N : List ByteArray) (D : List Nod) (i : Nat) : List UInt8 := [60] ++ nameW N D (i : Int) ++ (List.range D.length).flatMap (attK N D i)
def endE (N : List ByteArray) (D : List Nod) (i : Nat) : List UInt8 := [60, 47] ++ nameW N D (i : Int) ++ [62]
def el : Nat → List ByteArray → List Nod → Nat → List UInt8
 | 0, _, _, _ => []
 | f + 1, N, D, i => headE N D i ++ [62] ++ (List.range D.length).flatMap (bodK (el f N D) D i) ++ endE N D i
def Low (D : List Nod) : Prop := ∀ k, k < D.length → (D.getD k nz).f2 < (k : Int)
theorem el_fuel {N : List ByteArray} {D : List Nod} (h : Low D) : ∀ (f g i : Nat), i < D.length → D.length ≤ i + f → D.length ≤ i + g → el f N D i = el g N D i
 | 0, g, i, h1, h2, h3 => by omega
 | f + 1, 0, i, h1, h2, h3 => by omega
 | f + 1, g + 1, i, h1, h2, h3 => by
  unfold el
  rw [range_same (f := bodK (el f N D) D i) (g := bodK (el g N D) D i)]
  intro k hk
  unfold bodK
  split
  ·rename_i hc
   have := h k hk
   rw [el_fuel h f g k hk (by omega) (by omega)]
  ·rfl
abbrev elP (N : List ByteArray) (D : List Nod) : Nat → List UInt8 := el D.length N D
theorem elP_eq {N : List ByteArray} {D : List Nod} (h : Low D) {i : Nat} (hi : i < D.length) : elP N D i = headE N D i ++ [62] ++ (List.range D.length).flatMap (bodK (elP N D) D i) ++ endE N D i := by
 rw [show elP N D i = el (D.length + 1) N D i from el_fuel h _ _ i hi (by omega) (by omega)]; rfl
def opn (N : List ByteArray) (P : List Nod) (z lim : Nat) : List UInt8 := headE N P z ++ [62] ++ (List.range lim).flatMap (bodK (elP N P) P z)
def Gw (N : List ByteArray) (P : List Nod) : List Int → List UInt8
 | [] => []
 | z :: r => opn N P z.toNat (r.headD (P.length : Int)).toNat ++ Gw N P r
theorem headD_mid {α : Type} (pre : List α) (y : α) (t : List α) (d : α) : (pre ++ y :: t).headD d = (pre ++ [y]).headD d := by cases pre <;> rfl
structure Rw (P : List Nod) (op : List Int) : Prop where
 r : rows (prK P) = some op
theorem Rw.path {P : List Nod} {op : List Int} (h : Rw P op) : Path (prK P) op := (rows_path _ _ _ rfl h.r).1
theorem prK_get (P : List Nod) (k : Nat) (hk : k < P.length) : (prK P)[k]? = some (P.getD k nz, (P.getD k nz).f1) := by
 unfold prK
 rw [List.getElem?_map, List.getD_eq_getElem?_getD, List.getElem?_eq_getElem hk]; rfl
theorem Rw.low {P : List Nod} {op : List Int} (h : Rw P op) : Low P := by
 intro k hk
 obtain ⟨o, o', -, -, r1, r2⟩ := rows_low (prK P) op h.r k _ (prK_get P k hk)
 rcases Nat.eq_zero_or_pos k with h0 | h0
 ·have := (r1 h0).2
  simp only at this
  omega
 ·exact (r2 h0).2.1
theorem Rw.at {P : List Nod} {op : List Int} (h : Rw P op) {j : Nat} {z : Int} (hz : op[j]? = some z) : 0 ≤ z ∧ z.toNat < P.length ∧ (P.getD z.toNat nz).f0 = 1 ∧ (P.getD z.toNat nz).f2 = (if j = 0 then -1 else op.getD (j - 1) 0) := by
 obtain ⟨z1, z2, ⟨c, z3, z4, z5⟩, -, -⟩ := h.path j z hz
 rw [prK_len] at z2
 have hlt : z.toNat < P.length := by omega
 rw [prK_get P z.toNat hlt] at z3
 obtain rfl := Option.some.inj z3
 exact ⟨z1, hlt, z4, z5⟩
theorem opn_close {N : List ByteArray} {P : List Nod} {op : List Int} (h : Rw P op) {j : Nat} {y z : Int} (hy : op[j]? = some y) (hz : op[j + 1]? = some z) : opn N P y.toNat z.toNat ++ opn N P z.toNat P.length ++ endE N P z.toNat = opn N P y.toNat P.length := by
 obtain ⟨y1, y2, -, -⟩ := h.at hy
 obtain ⟨z1, z2, z3, z4⟩ := h.at hz
 have hgy : op.getD j 0 = y := by rw [List.getD_eq_getElem?_getD, hy]; rfl
 rw [if_neg (by omega), Nat.add_sub_cancel, hgy] at z4
 have hcut : (List.range P.length).flatMap (bodK (elP N P) P y.toNat) = (List.range (z.toNat + 1)).flatMap (bodK (elP N P) P y.toNat) := by
  refine range_cut (by omega) fun k h1 h2 => ?_
  unfold bodK
  rw [if_neg]
  rintro ⟨e, -⟩
  exact rows_adj _ _ _ rfl h.r j y z hy hz k _ (by omega) (prK_get P k h2) (by show (P.getD k nz).f2 = y; omega)
 have hb : bodK (elP N P) P y.toNat z.toNat = elP N P z.toNat := by
  unfold bodK
  rw [if_pos ⟨by omega, by omega⟩, if_neg (by omega)]
 unfold opn
 rw [hcut, range_one, hb, elP_eq h.low z2]
 simp only [List.append_assoc]
theorem Gw_pop {N : List ByteArray} {P : List Nod} {op : List Int} (h : Rw P op) {y z : Int} : ∀ (pre : List Int) (a : Nat), (∀ (j : Nat) (v : Int), (pre ++ [y, z])[j]? = some v → op[a + j]? = some v) → Gw N P (pre ++ [y, z]) ++ endE N P z.toNat = Gw N P (pre ++ [y])
 | [], a, e => by
  have := opn_close (N := N) h (j := a) (y := y) (z := z) (e 0 y rfl) (e 1 z rfl)
  show opn N P y.toNat z.toNat ++ (opn N P z.toNat P.length ++ []) ++ endE N P z.toNat = opn N P y.toNat P.length ++ []
  rw [List.append_nil, List.append_nil]; exact this
 | b :: pre, a, e => by
  have ih := Gw_pop (N := N) h (y := y) (z := z) pre (a + 1) (fun j v hv => by have := e (j + 1) v hv; rw [show a + 1 + j = a + (j + 1) from by omega]; exact this)
  show opn N P b.toNat ((pre ++ [y, z]).headD (P.length : Int)).toNat ++ Gw N P (pre ++ [y, z]) ++ endE N P z.toNat = opn N P b.toNat ((pre ++ [y]).headD (P.length : Int)).toNat ++ Gw N P (pre ++ [y])
  rw [headD_mid pre y [z], List.append_assoc, ih]
structure Add (P : List Nod) (op o : List Int) (x : Nod) : Prop where
 rw : Rw P op
 cut : o = op.take (op.idxOf x.f2 + 1)
 mem : x.f2 ∈ op
theorem Add.last {P : List Nod} {op o : List Int} {x : Nod} (h : Add P op o x) : o = op.take (op.idxOf x.f2) ++ [x.f2] := by
 have hlt := List.idxOf_lt_length_of_mem h.mem
 rw [h.cut, List.take_add_one, List.getElem?_eq_getElem hlt, List.getElem_idxOf]; rfl
theorem Add.len {P : List Nod} {op o : List Int} {x : Nod} (h : Add P op o x) : o.length = op.idxOf x.f2 + 1 := by
 have hlt := List.idxOf_lt_length_of_mem h.mem
 rw [h.cut, List.length_take]; omega
theorem Add.get {P : List Nod} {op o : List Int} {x : Nod} (h : Add P op o x) {j : Nat} {z : Int} (hz : o[j]? = some z) : op[j]? = some z := by
 rw [h.cut, List.getElem?_take] at hz
 split at hz
 ·exact hz
 ·cases hz
theorem getD_old {P : List Nod} {x : Nod} {k : Nat} (hk : k < P.length) : (P ++ [x]).getD k nz = P.getD k nz := by
 rw [List.getD_eq_getElem?_getD, List.getD_eq_getElem?_getD, List.getElem?_append_left hk]
theorem getD_new {P : List Nod} {x : Nod} : (P ++ [x]).getD P.length nz = x := by
 rw [List.getD_eq_getElem?_getD, List.getElem?_append_right (Nat.le_refl _), Nat.sub_self]; rfl
theorem nameW_old {N : List ByteArray} {P : List Nod} {R : List Nod} {z : Int} (hz : z.toNat < P.length) : nameW N (P ++ R) z = nameW N P z := by
 have e : ∀ d, (P ++ R).getD z.toNat d = P.getD z.toNat d := fun d => by rw [List.getD_eq_getElem?_getD, List.getD_eq_getElem?_getD, List.getElem?_append_left hz]
 unfold nameW
 rw [e]
theorem attK_old {N : List ByteArray} {P : List Nod} {x : Nod} {i k : Nat} (hk : k < P.length) : attK N (P ++ [x]) i k = attK N P i k := by
 unfold attK; rw [getD_old hk]
theorem Add.kid {P : List Nod} {op o : List Int} {x : Nod} (h : Add P op o x) {k c : Nat} (hk : (k : Int) ∈ o) (hc : (P.getD k nz).f2 = (c : Int)) : ∃ j, o[j]? = some (c : Int) ∧ o[j + 1]? = some (k : Int) := by
 obtain ⟨j, hj⟩ := List.mem_iff_getElem?.1 hk
 obtain ⟨q1, q2, q3, q4⟩ := h.rw.at (h.get hj)
 rw [Int.toNat_natCast, hc] at q4
 by_cases e : j = 0
 ·rw [if_pos e] at q4; omega
 ·rw [if_neg e] at q4
  have hl := (List.getElem?_eq_some_iff.1 hj).1
  have hg : o[j - 1]? = some o[j - 1] := List.getElem?_eq_getElem (by omega)
  rw [List.getD_eq_getElem?_getD, h.get hg] at q4
  have q4 : (c : Int) = o[j - 1] := q4
  exact ⟨j - 1, by rw [hg, q4], by rw [show j - 1 + 1 = j from by omega]; exact hj⟩
theorem Add.headE {N : List ByteArray} {P : List Nod} {op o : List Int} {x : Nod} (h : Add P op o x) {c : Nat} (hc : c < P.length) (hx : ¬ (x.f2 = (c : Int) ∧ x.f0 = 2)) : headE N (P ++ [x]) c = P14.headE N P c := by
 unfold P14.headE
 rw [nameW_old (by rw [Int.toNat_natCast]; exact hc), List.length_append, List.length_singleton, range_one, range_same (f := attK N (P ++ [x]) c) (g := attK N P c) (fun k hk => attK_old hk)]
 have : attK N (P ++ [x]) c P.length = [] := by unfold attK; rw [getD_new, if_neg hx]
 rw [this, List.append_nil]
theorem Add.el {N : List ByteArray} {P : List Nod} {op o : List Int} {x : Nod} (h : Add P op o x) : ∀ (f c : Nat), c < P.length → ¬ (c : Int) ∈ o → el f N (P ++ [x]) c = P14.el f N P c
 | 0, c, _, _ => rfl
 | f + 1, c, hc, ho => by
  have hx : ¬ x.f2 = (c : Int) := fun e => ho (by rw [← e, h.last]; simp)
  unfold P14.el
  rw [h.headE hc (fun e => hx e.1), show endE N (P ++ [x]) c = endE N P c from by unfold endE; rw [nameW_old (by rw [Int.toNat_natCast]; exact hc)]]
  rw [List.length_append, List.length_singleton, range_one, show bodK (P14.el f N (P ++ [x])) (P ++ [x]) c P.length = [] from by unfold bodK; rw [getD_new, if_neg (fun e => hx e.1)], List.append_nil]
  rw [range_same (f := bodK (P14.el f N (P ++ [x])) (P ++ [x]) c) (g := bodK (P14.el f N P) P c)]
  intro k hk
  unfold bodK
  rw [getD_old hk]
  split
  ·rename_i e
   rw [h.el f k hk]
   intro hm
   obtain ⟨j, hj, -⟩ := h.kid hm e.1
   exact ho (List.mem_of_getElem? hj)
  ·rfl
theorem Add.elP {N : List ByteArray} {P : List Nod} {op o : List Int} {x : Nod} (h : Add P op o x) (hl : Low (P ++ [x])) {c : Nat} (hc : c < P.length) (ho : ¬ (c : Int) ∈ o) : elP N (P ++ [x]) c = P14.elP N P c := by
 have hL : (P ++ [x]).length = P.length + 1 := by simp
 show P14.el (P ++ [x]).length N (P ++ [x]) c = P14.el P.length N P c
 rw [hL, h.el _ c hc ho]
 exact el_fuel h.rw.low _ _ c hc (by omega) (by omega)
theorem Add.opn {N : List ByteArray} {P : List Nod} {op o : List Int} {x : Nod} (h : Add P op o x) (hl : Low (P ++ [x])) {c lim : Nat} (hc : c < P.length) (hx : ¬ (x.f2 = (c : Int) ∧ x.f0 = 2)) (hlim : lim ≤ P.length) (hk : ∀ k, k < lim → (P.getD k nz).f2 = (c : Int) → ¬ (k : Int) ∈ o) : opn N (P ++ [x]) c lim = P14.opn N P c lim := by
 unfold P14.opn
 rw [h.headE hc hx, range_same (f := bodK (P14.elP N (P ++ [x])) (P ++ [x]) c) (g := bodK (P14.elP N P) P c)]
 intro k hkl
 unfold bodK
 rw [getD_old (by omega)]
 split
 ·rename_i e
  rw [h.elP hl (by omega) (hk k hkl e.1)]
 ·rfl
theorem Add.path {P : List Nod} {op o : List Int} {x : Nod} (h : Add P op o x) : Path (prK P) o := by rw [h.cut]; exact h.rw.path.take _
theorem Add.inner {P : List Nod} {op o : List Int} {x : Nod} (h : Add P op o x) {j : Nat} {b : Int} (hb : o[j]? = some b) {lim : Nat} (hlim : ∀ z, o[j + 1]? = some z → (lim : Int) ≤ z) : ∀ k, k < lim → (P.getD k nz).f2 = ((b.toNat : Nat) : Int) → ¬ (k : Int) ∈ o := by
 intro k hk he hm
 obtain ⟨b1, -, -, -⟩ := h.rw.at (h.get hb)
 rw [show ((b.toNat : Nat) : Int) = b from by omega] at he
 have he' : (P.getD k nz).f2 = ((b.toNat : Nat) : Int) := by omega
 obtain ⟨i, h1, h2⟩ := h.kid hm he'
 rw [show ((b.toNat : Nat) : Int) = b from by omega] at h1
 have e1 := h.path.idx j b hb
 have e2 := h.path.idx i b h1
 have : (lim : Int) ≤ (k : Int) := hlim k (by rw [show j + 1 = i + 1 from by omega]; exact h2)
 omega
def Gq (N : List ByteArray) (P : List Nod) (p : Int) : List Int → List UInt8
 | [] => []
 | b :: r => opn N P b.toNat ((r ++ [p]).headD 0).toNat ++ Gq N P p r
theorem headD_end {α : Type} (r : List α) (p : α) (d e : α) : (r ++ [p]).headD d = (r ++ [p]).headD e := by cases r <;> rfl
theorem Gw_q {N : List ByteArray} {P : List Nod} {p : Int} (t : List Int) : ∀ r : List Int, Gw N P (r ++ p :: t) = Gq N P p r ++ Gw N P (p :: t)
 | [] => rfl
 | b :: r => by
  show opn N P b.toNat ((r ++ p :: t).headD (P.length : Int)).toNat ++ Gw N P (r ++ p :: t) = opn N P b.toNat ((r ++ [p]).headD 0).toNat ++ Gq N P p r ++ Gw N P (p :: t)
  rw [Gw_q t r, headD_mid r p t, headD_end r p _ 0, List.append_assoc]
theorem Add.Gq {N : List ByteArray} {P : List Nod} {op o : List Int} {x : Nod} (h : Add P op o x) (hl : Low (P ++ [x])) : ∀ (r a : List Int), o = a ++ (r ++ [x.f2]) → P14.Gq N (P ++ [x]) x.f2 r = P14.Gq N P x.f2 r
 | [], a, _ => rfl
 | b :: r, a, ho => by
  have ih := h.Gq hl (N := N) r (a ++ [b]) (by rw [ho]; simp)
  have hb : o[a.length]? = some b := by rw [ho, List.getElem?_append_right (Nat.le_refl _)]; simp
  obtain ⟨z, hz, hzl⟩ : ∃ z, o[a.length + 1]? = some z ∧ ∀ d, (r ++ [x.f2]).headD d = z := by
   rw [ho, List.getElem?_append_right (by omega)]
   cases r with
   | nil => exact ⟨x.f2, by simp, fun d => rfl⟩
   | cons c r => exact ⟨c, by simp, fun d => rfl⟩
  obtain ⟨b1, b2, -, -⟩ := h.rw.at (h.get hb)
  obtain ⟨z1, z2, -, -⟩ := h.rw.at (h.get hz)
  have hne : ¬ x.f2 = b := by
   intro e
   have e1 := h.path.idx _ b hb
   have e2 := h.path.idx (o.length - 1) x.f2 (by rw [h.last, List.length_append, List.length_singleton, List.getElem?_append_right (by omega)]; simp)
   rw [e] at e2
   have := (List.getElem?_eq_some_iff.1 hz).1
   omega
  show P14.opn N (P ++ [x]) b.toNat ((r ++ [x.f2]).headD 0).toNat ++ P14.Gq N (P ++ [x]) x.f2 r = P14.opn N P b.toNat ((r ++ [x.f2]).headD 0).toNat ++ P14.Gq N P x.f2 r
  rw [ih, hzl, h.opn hl b2 (fun e => hne (by omega)) (by omega) (h.inner hb (fun z' hz' => by rw [hz] at hz'; obtain rfl := Option.some.inj hz'; omega))]
end Go.Proofs.YtlhhhlimjajnlaaGreat.P14
end
section
set_option linter.unusedVariables false
set_option linter.unusedSimpArgs false
namespace Go.Proofs.YtlhhhlimjajnlaaGreat.P14
open Go.RowKit Go.Proofs.YtlhhhlimjajnlaaGreat Go.Proofs.YtlhhhlimjajnlaaGreat.Q Go.Proofs.YtlhhhlimjajnlaaGreatW.PrintWords Go.Proofs.YtlhhhlimjajnlaaGreat.X Go.Proofs.YtlhhhlimjajnlaaGreat.Ck
theorem ready_false {s : WS} (h : s.bg = false) : (readyW s).out = s.out := by unfold readyW; rw [if_neg (by rw [h]; decide)]
theorem ready_true {s : WS} (h : s.bg = true) : (readyW s).out = s.out ++ [62] := by unfold readyW; rw [if_pos h]
section
variable {N : List ByteArray} {P R : List Nod} {op : List Int}
theorem endE_at (h : Rw P op) {j : Nat} {z : Int} (hz : op[j]? = some z) : [60, 47] ++ nameW N (P ++ R) z ++ [62] = endE N P z.toNat := by
 obtain ⟨z1, z2, -, -⟩ := h.at hz
 unfold endE
 rw [nameW_old z2, show ((z.toNat : Nat) : Int) = z from by omega]
theorem take_last {m : Nat} (hm : m < op.length) : op.take (m + 1) = op.take m ++ [op[m]] := by rw [List.take_add_one, List.getElem?_eq_getElem hm]; rfl
theorem pop_two (h : Rw P op) {s : WS} {m : Nat} (hm : m + 1 < op.length) (hs : s.op = op.take (m + 2)) (ho : (readyW s).out = Gw N P s.op) : (popW N (P ++ R) s).op = op.take (m + 1) ∧ (popW N (P ++ R) s).out = Gw N P (op.take (m + 1)) ∧ (popW N (P ++ R) s).bg = false := by
 have e2 : op.take (m + 2) = op.take m ++ [op[m], op[m + 1]] := by rw [show m + 2 = (m + 1) + 1 from rfl, take_last hm, take_last (by omega), List.append_assoc]; rfl
 have e1 : op.take (m + 1) = op.take m ++ [op[m]] := take_last (by omega)
 refine ⟨?_, ?_, rfl⟩
 ·show s.op.dropLast = _
  rw [hs, e2, e1, show op.take m ++ [op[m], op[m + 1]] = (op.take m ++ [op[m]]) ++ [op[m + 1]] from by rw [List.append_assoc]; rfl, List.dropLast_concat]
 ·show (readyW s).out ++ ([60, 47] ++ nameW N (P ++ R) (s.op.getLastD 0) ++ [62]) = _
  have hl : s.op.getLastD 0 = op[m + 1] := by rw [hs, show m + 2 = (m + 1) + 1 from rfl, take_last hm, List.getLastD_concat]
  rw [hl, endE_at h (List.getElem?_eq_getElem hm), ho, hs, e2, e1]
  refine Gw_pop h (op.take m) 0 fun j v hv => ?_
  rw [← e2, List.getElem?_take] at hv
  split at hv
  ·rw [Nat.zero_add]; exact hv
  ·cases hv
theorem close_go (h : Rw P op) {p : Int} : ∀ (k m : Nat) (s : WS), m ≤ op.length → s.op = op.take m → p ∈ s.op → m ≤ k → (readyW s).out = Gw N P s.op →
 (closeW N (P ++ R) p k s).op = op.take (op.idxOf p + 1) ∧ (readyW (closeW N (P ++ R) p k s)).out = Gw N P (op.take (op.idxOf p + 1)) ∧ ((closeW N (P ++ R) p k s = s ∧ m = op.idxOf p + 1) ∨ ((closeW N (P ++ R) p k s).bg = false ∧ op.idxOf p + 1 < m))
 | 0, m, s, hm, hs, hp, hk, ho => by
  obtain rfl : m = 0 := by omega
  rw [hs] at hp; simp at hp
 | k + 1, m, s, hm, hs, hp, hk, ho => by
  obtain ⟨j, hj⟩ := List.mem_iff_getElem?.1 hp
  rw [hs, List.getElem?_take] at hj
  split at hj
  case isFalse => cases hj
  rename_i hjm
  have hix := h.path.idx j p hj
  have hne : ¬ s.op = [] := fun e => by rw [e] at hp; cases hp
  obtain ⟨q, rfl⟩ : ∃ q, m = q + 1 := ⟨m - 1, by omega⟩
  have hl : s.op.getLastD 0 = op[q] := by rw [hs, take_last (by omega), List.getLastD_concat]
  unfold closeW
  by_cases c : op[q] = p
  ·rw [if_pos (.inr (by rw [hl, c]))]
   have := h.path.idx q p (by rw [List.getElem?_eq_getElem (by omega), c])
   have e : op.idxOf p + 1 = q + 1 := by omega
   rw [e, ← hs]
   exact ⟨rfl, ho, .inl ⟨rfl, rfl⟩⟩
  ·rw [if_neg (fun e => e.elim hne fun e => c (by rw [← hl]; exact e))]
   have hjq : j < q := by
    rcases Nat.lt_or_ge j q with e | e
    ·exact e
    ·exfalso
     obtain rfl : j = q := by omega
     rw [List.getElem?_eq_getElem (by omega)] at hj
     exact c (Option.some.inj hj)
   obtain ⟨r, rfl⟩ : ∃ r, q = r + 1 := ⟨q - 1, by omega⟩
   obtain ⟨q1, q2, q3⟩ := pop_two (R := R) h (by omega) hs ho
   obtain ⟨i1, i2, i3⟩ := close_go h k (r + 1) (popW N (P ++ R) s) (by omega) q1 (by rw [q1]; exact List.mem_of_getElem? (by rw [List.getElem?_take_of_lt (by omega)]; exact hj : (op.take (r + 1))[j]? = some p)) (by omega) (by rw [ready_false q3, q2, q1])
   refine ⟨i1, i2, .inr ⟨?_, by omega⟩⟩
   rcases i3 with ⟨e, -⟩ | ⟨e, -⟩
   ·rw [e]; exact q3
   ·exact e
end
structure WI (N : List ByteArray) (P : List Nod) (s : WS) : Prop where
 r : Rw P s.op
 out : (readyW s).out = Gw N P s.op
 bg : ∀ z, s.op.getLast? = some z → s.bg = !(more (prK P) z)
theorem WI.zero (N : List ByteArray) : WI N [] ⟨[], [], false⟩ := ⟨⟨rfl⟩, rfl, fun z hz => by cases hz⟩
theorem more_of {P : List Nod} {k : Nat} (hk : k < P.length) {p : Int} (h2 : (P.getD k nz).f2 = p) (h0 : ¬ (P.getD k nz).f0 = 2) : more (prK P) p = true := by
 unfold more
 rw [List.any_eq_true]
 refine ⟨(P.getD k nz, (P.getD k nz).f1), ?_, by simpa using h0⟩
 unfold kids
 rw [List.mem_filter]
 exact ⟨List.mem_of_getElem? (prK_get P k hk), by simpa using h2⟩
theorem more_not {P : List Nod} {p : Int} (h : more (prK P) p = false) {k : Nat} (hk : k < P.length) (h2 : (P.getD k nz).f2 = p) : (P.getD k nz).f0 = 2 := by
 by_cases c : (P.getD k nz).f0 = 2
 ·exact c
 ·rw [more_of hk h2 c] at h; cases h
theorem snoc_len {P : List Nod} {x : Nod} : (P ++ [x]).length = P.length + 1 := by simp
theorem body_none {f : Nat → List UInt8} : ∀ {n : Nat}, (∀ k, k < n → f k = []) → (List.range n).flatMap f = []
 | 0, _ => rfl
 | n + 1, h => by rw [range_one, body_none (n := n) (fun k hk => h k (by omega)), h n (by omega)]; rfl
theorem WI.step {N : List ByteArray} {P R : List Nod} {x : Nod} {s : WS} {o : List Int} (h : WI N P s) (hx : x.f0 = 1 ∨ x.f0 = 2 ∨ x.f0 = 3) (hr : right (prK P) s.op x x.f1 = some o) : WI N (P ++ [x]) (nodeW N (P ++ x :: R) P.length x s) := by
 have hap : prK (P ++ [x]) = prK P ++ [(x, x.f1)] := prK_app _ _
 have hro : Rw (P ++ [x]) o := ⟨by rw [hap, rows_snoc _ _ _ h.r.r]; exact hr⟩
 have hl : Low (P ++ [x]) := hro.low
 unfold nodeW
 simp only
 have hr' := hr
 unfold right at hr
 by_cases hP : prK P = []
 ·have hP0 : P = [] := prK_nil.1 hP
  subst hP0
  rw [if_pos hP] at hr
  by_cases c : x.f0 = 1 ∧ x.f2 = -1
  case neg => rw [if_neg c] at hr; cases hr
  rw [if_pos c] at hr
  obtain rfl := Option.some.inj hr
  have hop : s.op = [] := (rows_path _ _ _ rfl h.r.r).2.1 rfl
  have hcl : closeW N ([] ++ x :: R) x.f2 s.op.length s = s := by rw [hop]; rfl
  rw [hcl, if_neg (by omega), if_neg (by omega)]
  have hout : (readyW s).out = [] := by rw [h.out, hop]; rfl
  have h2 : ∀ k : Nat, k < ([] ++ [x] : List Nod).length → ¬ (([] ++ [x] : List Nod).getD k nz).f2 = ((0 : Nat) : Int) := by
   intro k hk
   obtain rfl : k = 0 := by simp at hk; exact hk
   show ¬ x.f2 = _
   omega
  refine ⟨?_, ?_, ?_⟩
  ·show Rw ([] ++ [x]) ((readyW s).op ++ [((List.length ([] : List Nod) : Nat) : Int)])
   rw [show (readyW s).op = [] from hop]; exact hro
  ·rw [ready_true rfl]
   show (readyW s).out ++ ([60] ++ (N.getD x.f1.toNat ⟨#[]⟩).data.toList) ++ [62] = Gw N ([] ++ [x]) ((readyW s).op ++ [((List.length ([] : List Nod) : Nat) : Int)])
   rw [hout, show (readyW s).op = [] from hop]
   show _ = opn N ([] ++ [x]) 0 ([] ++ [x] : List Nod).length ++ []
   unfold opn headE
   rw [body_none (fun k hk => by unfold attK; rw [if_neg (fun e => h2 k hk e.1)]), body_none (fun k hk => by unfold bodK; rw [if_neg (fun e => h2 k hk e.1)])]
   simp [nameW]
  ·intro z hz
   have hz : ((readyW s).op ++ [((List.length ([] : List Nod) : Nat) : Int)]).getLast? = some z := hz
   rw [List.getLast?_concat] at hz
   obtain rfl := Option.some.inj hz
   show true = !(more (prK ([] ++ [x])) 0)
   have : more (prK ([] ++ [x])) 0 = false := by
    rw [hap, more_snoc, if_neg (by show ¬ x.f2 = 0; omega)]; rfl
   rw [this]; rfl
 ·rw [if_neg hP] at hr
  by_cases hm : x.f2 ∈ s.op
  case neg => rw [if_neg hm] at hr; cases hr
  rw [if_pos hm] at hr
  simp only at hr
  obtain ⟨c1, c2, c3⟩ := close_go (R := x :: R) h.r s.op.length s.op.length s (Nat.le_refl _) (List.take_length).symm hm (Nat.le_refl _) h.out
  have hA : Add P s.op (s.op.take (s.op.idxOf x.f2 + 1)) x := ⟨h.r, rfl, hm⟩
  obtain ⟨t, ht⟩ : ∃ t, s.op.take (s.op.idxOf x.f2) = t := ⟨_, rfl⟩
  have hlast := hA.last
  rw [ht] at hlast
  have hlt := List.idxOf_lt_length_of_mem hm
  have hgt : s.op[s.op.idxOf x.f2]? = some x.f2 := by rw [List.getElem?_eq_getElem hlt, List.getElem_idxOf]
  obtain ⟨p1, p2, p3, p4⟩ := h.r.at hgt
  have hpc : ((x.f2.toNat : Nat) : Int) = x.f2 := by omega
  have hGq := hA.Gq (N := N) hl t [] hlast
  have hkid : ∀ k, k < P.length → (P.getD k nz).f2 = ((x.f2.toNat : Nat) : Int) → ¬ (k : Int) ∈ s.op.take (s.op.idxOf x.f2 + 1) :=
   hA.inner (j := s.op.idxOf x.f2) (b := x.f2) (by rw [List.getElem?_take_of_lt (by omega)]; exact hgt) (fun z hz => by
    have := (List.getElem?_eq_some_iff.1 hz).1
    rw [hA.len] at this; omega)
  generalize closeW N (P ++ x :: R) x.f2 s.op.length s = c at *
  rw [hlast] at c1 c2
  have hro' := hro
  by_cases k2 : x.f0 = 2
  ·rw [if_pos k2]
   rw [if_neg (by omega), if_pos k2] at hr
   split at hr
   ·cases hr
   rename_i hmt
   obtain rfl := Option.some.inj hr
   rw [hlast] at hro
   have hmore : more (prK P) x.f2 = false := by
    cases e : more (prK P) x.f2 with
    | false => rfl
    | true => exact absurd (.inl e) hmt
   obtain ⟨e, em⟩ : c = s ∧ s.op.length = s.op.idxOf x.f2 + 1 := by
    rcases c3 with c3 | ⟨-, c3⟩
    ·exact c3
    ·exfalso
     have hz : s.op[s.op.idxOf x.f2 + 1]? = some s.op[s.op.idxOf x.f2 + 1] := List.getElem?_eq_getElem c3
     obtain ⟨z1, z2, z3, z4⟩ := h.r.at hz
     rw [if_neg (by omega), Nat.add_sub_cancel, show s.op.getD (s.op.idxOf x.f2) 0 = x.f2 from by rw [List.getD_eq_getElem?_getD, hgt]; rfl] at z4
     have := more_not hmore z2 z4
     omega
   subst e
   have hbg : c.bg = true := by
    have := h.bg x.f2 (by rw [c1]; exact List.getLast?_concat ..)
    rw [this, hmore]; rfl
   rw [ready_true hbg, Gw_q, show P14.Gw N P [x.f2] = headE N P x.f2.toNat ++ [62] from by
    show opn N P x.f2.toNat P.length ++ [] = _
    unfold opn
    rw [body_none (fun k hk => by unfold bodK; rw [if_neg (fun e => e.2 (more_not hmore hk (by rw [e.1, hpc])))]), List.append_nil, List.append_nil], ← List.append_assoc] at c2
   have c2 := List.append_cancel_right c2
   refine ⟨?_, ?_, ?_⟩
   ·show Rw (P ++ [x]) c.op
    rw [c1]; exact hro
   ·rw [ready_true (by exact hbg)]
    show c.out ++ ([32] ++ (N.getD x.f1.toNat ⟨#[]⟩).data.toList ++ [61, 34] ++ escL x.f3.data.toList ++ [34]) ++ [62] = Gw N (P ++ [x]) c.op
    rw [c1, Gw_q, hGq, c2]
    have e1 : headE N (P ++ [x]) x.f2.toNat = headE N P x.f2.toNat ++ attW N x := by
     unfold headE
     rw [nameW_old (by rw [hpc]; exact p2), snoc_len, range_one, range_same (f := attK N (P ++ [x]) x.f2.toNat) (g := attK N P x.f2.toNat) (fun k hk => attK_old hk)]
     have : attK N (P ++ [x]) x.f2.toNat P.length = attW N x := by unfold attK; rw [getD_new, if_pos ⟨hpc.symm, k2⟩]
     rw [this]; simp
    have e2 : P14.Gw N (P ++ [x]) [x.f2] = headE N P x.f2.toNat ++ attW N x ++ [62] := by
     show opn N (P ++ [x]) x.f2.toNat (P ++ [x]).length ++ [] = _
     unfold opn
     rw [e1, body_none (fun k hk => by
      unfold bodK
      rw [if_neg]
      rintro ⟨e, e'⟩
      rw [snoc_len] at hk
      by_cases hkn : k < P.length
      ·rw [getD_old hkn] at e e'
       exact e' (more_not hmore hkn (by rw [e, hpc]))
      ·obtain rfl : k = P.length := by omega
       rw [getD_new] at e'
       exact e' k2), List.append_nil, List.append_nil]
    rw [e2]
    unfold attW
    simp only [List.append_assoc]
   ·intro z hz
    have hz : c.op.getLast? = some z := hz
    rw [c1, List.getLast?_concat] at hz
    obtain rfl := Option.some.inj hz
    show c.bg = _
    rw [hbg, hap, more_snoc, if_pos rfl, hmore]
    simp [k2]
  ·rw [if_neg k2]
   have hopn : opn N (P ++ [x]) x.f2.toNat P.length = opn N P x.f2.toNat P.length := hA.opn hl p2 (fun e => k2 e.2) (Nat.le_refl _) hkid
   have hGp : Gw N P (t ++ [x.f2]) = Gq N P x.f2 t ++ opn N P x.f2.toNat P.length := by
    rw [Gw_q]
    show _ ++ (opn N P x.f2.toNat P.length ++ []) = _
    rw [List.append_nil]
   by_cases k3 : x.f0 = 3
   ·rw [if_pos k3]
    rw [if_neg (by omega), if_neg k2] at hr
    split at hr
    ·cases hr
    obtain rfl := Option.some.inj hr
    rw [hlast] at hro
    refine ⟨?_, ?_, ?_⟩
    ·show Rw (P ++ [x]) c.op
     rw [c1]; exact hro
    ·rw [ready_false rfl]
     show (readyW c).out ++ escL x.f3.data.toList = Gw N (P ++ [x]) c.op
     rw [c2, c1, hGp, Gw_q, hGq]
     show _ = Gq N P x.f2 t ++ (opn N (P ++ [x]) x.f2.toNat (P ++ [x]).length ++ [])
     have e : opn N (P ++ [x]) x.f2.toNat (P ++ [x]).length = opn N P x.f2.toNat P.length ++ escL x.f3.data.toList := by
      rw [← hopn]
      unfold opn
      rw [snoc_len, range_one, show bodK (elP N (P ++ [x])) (P ++ [x]) x.f2.toNat P.length = escL x.f3.data.toList from by unfold bodK; rw [getD_new, if_pos ⟨hpc.symm, k2⟩, if_pos k3]]
      simp only [List.append_assoc]
     rw [e, List.append_nil, List.append_assoc]
    ·intro z hz
     have hz : c.op.getLast? = some z := hz
     rw [c1, List.getLast?_concat] at hz
     obtain rfl := Option.some.inj hz
     show false = _
     rw [hap, more_snoc, if_pos rfl]
     simp [k2]
   ·have k1 : x.f0 = 1 := by omega
    rw [if_neg k3]
    rw [if_pos k1] at hr
    split at hr
    ·cases hr
    obtain rfl := Option.some.inj hr
    rw [hlast, prK_len] at hro
    have hk0 : ∀ k, k < (P ++ [x]).length → ¬ ((P ++ [x]).getD k nz).f2 = ((P.length : Nat) : Int) := by
     intro k hk e
     rw [snoc_len] at hk
     have := hl k (by rw [snoc_len]; exact hk)
     omega
    refine ⟨?_, ?_, ?_⟩
    ·show Rw (P ++ [x]) ((readyW c).op ++ [(P.length : Int)])
     rw [show (readyW c).op = c.op from rfl, c1]; exact hro
    ·rw [ready_true rfl]
     show (readyW c).out ++ ([60] ++ (N.getD x.f1.toNat ⟨#[]⟩).data.toList) ++ [62] = Gw N (P ++ [x]) ((readyW c).op ++ [(P.length : Int)])
     rw [show (readyW c).op = c.op from rfl, c1, c2, hGp, show t ++ [x.f2] ++ [(P.length : Int)] = t ++ x.f2 :: [(P.length : Int)] from by simp, Gw_q, hGq]
     show _ = Gq N P x.f2 t ++ (opn N (P ++ [x]) x.f2.toNat ((P.length : Int)).toNat ++ (opn N (P ++ [x]) ((P.length : Int)).toNat (P ++ [x]).length ++ []))
     rw [Int.toNat_natCast, hopn]
     have e : opn N (P ++ [x]) P.length (P ++ [x]).length = [60] ++ (N.getD x.f1.toNat ⟨#[]⟩).data.toList ++ [62] := by
      unfold opn headE
      rw [body_none (fun k hk => by unfold attK; rw [if_neg (fun e => hk0 k hk e.1)]), body_none (fun k hk => by unfold bodK; rw [if_neg (fun e => hk0 k hk e.1)])]
      unfold nameW
      have e : ∀ d, (P ++ [x]).getD P.length d = x := fun d => by rw [List.getD_eq_getElem?_getD, List.getElem?_append_right (Nat.le_refl _), Nat.sub_self]; rfl
      rw [Int.toNat_natCast, e]; simp
     rw [e]
     simp only [List.append_assoc, List.append_nil]
    ·intro z hz
     have hz : ((readyW c).op ++ [(P.length : Int)]).getLast? = some z := hz
     rw [List.getLast?_concat] at hz
     obtain rfl := Option.some.inj hz
     show true = !(more (prK (P ++ [x])) (P.length : Int))
     have : more (prK (P ++ [x])) (P.length : Int) = false := by
      cases e : more (prK (P ++ [x])) (P.length : Int) with
      | false => rfl
      | true =>
       exfalso
       unfold more at e
       rw [List.any_eq_true] at e
       obtain ⟨d, hd, -⟩ := e
       obtain ⟨i, i1, i2, i3⟩ := kids_behind _ _ hro.r (P.length : Int) (by omega) d hd
       have := (List.getElem?_eq_some_iff.1 i1).1
       rw [prK_len, snoc_len] at this
       omega
     rw [this]; rfl
end Go.Proofs.YtlhhhlimjajnlaaGreat.P14
end
