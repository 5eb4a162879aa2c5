/- Parts of the proof of canonSpoilt_holds, kept and merged by a program of mine (wip/tools/slim.py) out of my texts: ParB ParC -/
import Derived.Test.YtlhhhlimjajnlaaGreatSSp9
import Derived.Test.YtlhhhlimjajnlaaGreatSSp10
section
set_option linter.unusedVariables false
set_option linter.unusedSimpArgs false
namespace Go.Proofs.YtlhhhlimjajnlaaGreat.X
open Go.RowKit Go.Proofs.YtlhhhlimjajnlaaGreat Go.Proofs.YtlhhhlimjajnlaaGreat.Q Go.Proofs.YtlhhhlimjajnlaaGreatW.PrintWords Go.Proofs.YtlhhhlimjajnlaaGreatW.PrintLast Go.Proofs.YtlhhhlimjajnlaaGreatW.PrintMore
attribute [local go_sem] max2_int min2_int max_two min_two   
set_option maxHeartbeats 8000000 in
set_option maxRecDepth 100000 in
theorem flush_c {w0 w : World} {g : Nat} {v1 v2 v3 : Value} {p : PS} (h : Bd w0 w g v1 v2 v3 p) (hl : p.n.length ≤ 1000000) (hl2 : p.s.length ≤ 1000000) (hl3 : p.o.length ≤ 1000000) (hx : p.x.size ≤ 4294967296) :
 Calls Tryz.prog 30 #[.pointer (some ⟨g, 0, none⟩)] w fun e w' => e = .returned (.tuple #[]) ∧ ∃ v1' v2', Bd w0 w' g v1' v2' v3 (flushP p) := by
 have hc3 := h.c3
 have hf3 := h.f 3
 have hS : Bd w0 (w.setCell ⟨g, 3, none⟩ (.string ⟨#[]⟩)) g v1 v2 v3 { p with x := ⟨#[]⟩ } := h.set { p with x := ⟨#[]⟩ } rfl rfl rfl 3 (.string ⟨#[]⟩) rfl
 have HS := Lib.hid hS
 have HL := Lib.hid hl
 have HL2 := Lib.hid hl2
 have HL3 := Lib.hid hl3
 by_cases c : p.x.data.toList = []
 ·have b1 : (p.x.toList == ([] : List UInt8)) = true := by rw [Lib.toList_data, c]; rfl
  have hF : flushP p = { p with x := ⟨#[]⟩ } := by unfold flushP; rw [if_pos c]
  rw [hF]
  have c' : p.x.toList = [] := by rw [Lib.toList_data, c]
  clear hS hl hl2 hl3
  go_enter Tryz.func30, Tryz.ntmps30
  go_wp2
  first | go_end0 | go_ret | ((try simp only [Exit.inBlock, Exit.then]); refine bodyPost_ret (results_none rfl _ _ _) rfl ?_)
  exact ⟨rfl, _, _, HS.out⟩
 ·have b1 : (p.x.toList == ([] : List UInt8)) = false := by rw [Lib.toList_data, beq_eq_false_iff_ne]; exact c
  have c' : ¬ p.x.toList = [] := by rw [Lib.toList_data]; exact c
  by_cases t : topP p.o < 0
  ·have b2 := eq_true t
   obtain ⟨K, hK⟩ : ∃ K, skipP p.x.data.toList 0 = K := ⟨_, rfl⟩
   have hSk : ∀ W, Calls Tryz.prog 59 #[.string p.x, .int .i64 0] W fun e w' => e = .returned (.int .i64 K) ∧ Below W.heap.size W w' := fun W => chars_Skip.calls p.x 0 K W (by unfold chars_Skip.f; rw [if_pos hx, hK])
   have hF : flushP p = { p with x := ⟨#[]⟩, wr := p.wr || decide (K < (p.x.size : Int)) } := by unfold flushP; rw [if_neg c, if_pos t, hK]
   rw [hF]
   cases hw : p.wr with
   | true =>
    have hc5 : w.cell? ⟨g, 5, none⟩ = some (.bool true) := by rw [h.c5, hw]
    have hf5 := h.f 5
    have hE : ∀ n, Bd w0 (((w.setCell ⟨g, 3, none⟩ (.string ⟨#[]⟩)).drewN n).setCell ⟨g, 5, none⟩ (.bool true)) g v1 v2 v3 { p with x := ⟨#[]⟩, wr := true } := fun n => (hS.drewN n).set { p with x := ⟨#[]⟩, wr := true } rfl rfl rfl 5 (.bool true) (by rw [hw]; rfl)
    have HE := Lib.hid hE
    rw [Bool.true_or]
    clear hS hE hl hl2 hl3 hw
    go_enter Tryz.func30, Tryz.ntmps30
    go_wp2_with (go_at_call 29; refine (top_c (w0 := w0) (g := g) (v1 := v1) (v2 := v2) (v3 := v3) (p := { p with x := ⟨#[]⟩ }) (by first | exact HS.out | exact HS.out.drew | exact HS.out.drewN _) HL3.out).mono ?_; rintro e w' ⟨rfl, n, rfl⟩)
    first | go_end0 | go_ret | ((try simp only [Exit.inBlock, Exit.then]); refine bodyPost_ret (results_none rfl _ _ _) rfl ?_)
    exact ⟨rfl, _, _, HE.out _⟩
   | false =>
    have hc5 : w.cell? ⟨g, 5, none⟩ = some (.bool false) := by rw [h.c5, hw]
    have hf5 := h.f 5
    rw [Bool.false_or]
    have HW := Lib.hid hw
    clear hS hl hl2 hl3 hw
    go_enter Tryz.func30, Tryz.ntmps30
    go_wp2_with (first | (go_at_call 29; refine (top_c (w0 := w0) (g := g) (v1 := v1) (v2 := v2) (v3 := v3) (p := { p with x := ⟨#[]⟩ }) (by first | exact HS.out | exact HS.out.drew | exact HS.out.drewN _) HL3.out).mono ?_; rintro e w' ⟨rfl, n, rfl⟩) | (go_at_call 59; refine (hSk _).mono ?_; rintro e w1 ⟨rfl, hb⟩; have H1 := Lib.hid (show Bd w0 w1 g v1 v2 v3 { p with x := ⟨#[]⟩ } from by first | exact HS.out.below hb | exact (HS.out.drewN _).below hb | exact (HS.out.drew).below hb); have hd5 := H1.out.c5; have he5 := H1.out.f 5; clear hb))
    first | go_end0 | go_ret | ((try simp only [Exit.inBlock, Exit.then]); refine bodyPost_ret (results_none rfl _ _ _) rfl ?_)
    exact ⟨rfl, _, _, H1.out.set { p with x := ⟨#[]⟩, wr := decide (K < (p.x.size : Int)) } rfl rfl rfl 5 (.bool (decide (K < (p.x.size : Int)))) (by rfl)⟩
  ·have b2 := eq_false t
   have hF : flushP p = putP { p with x := ⟨#[]⟩ } 3 (-1) p.x ⟨#[]⟩ := by unfold flushP; rw [if_neg c, if_neg t]
   rw [hF]
   clear hS hl hl2 hl3
   go_enter Tryz.func30, Tryz.ntmps30
   go_wp2_with (first | (go_at_call 29; refine (top_c (w0 := w0) (g := g) (v1 := v1) (v2 := v2) (v3 := v3) (p := { p with x := ⟨#[]⟩ }) (by first | exact HS.out | exact HS.out.drew | exact HS.out.drewN _) HL3.out).mono ?_; rintro e w' ⟨rfl, n, rfl⟩) | (go_at_call 57; refine (put_c (w0 := w0) (g := g) (v1 := v1) (v2 := v2) (v3 := v3) (p := { p with x := ⟨#[]⟩ }) (by first | exact HS.out | exact HS.out.drew | exact HS.out.drewN _) HL.out HL2.out HL3.out 3 (-1) 0 p.x ⟨#[]⟩).mono ?_; rintro e w' ⟨rfl, u1, u2, hu⟩))
   first | go_end0 | go_ret | ((try simp only [Exit.inBlock, Exit.then]); refine bodyPost_ret (results_none rfl _ _ _) rfl ?_)
   exact ⟨rfl, u1, u2, hu⟩
theorem flush_lens (p : PS) : (flushP p).n.length ≤ p.n.length + 1 ∧ (flushP p).s.length ≤ p.s.length + 1 ∧ (flushP p).o = p.o ∧ (flushP p).x = ⟨#[]⟩ := by
 unfold flushP
 split
 ·exact ⟨Nat.le_succ _, Nat.le_succ _, rfl, rfl⟩
 ·split
  ·exact ⟨Nat.le_succ _, Nat.le_succ _, rfl, rfl⟩
  ·refine ⟨?_, ?_, rfl, rfl⟩ <;> simp [putP]
set_option maxHeartbeats 16000000 in
set_option maxRecDepth 100000 in
theorem begin_c {w0 w : World} {g : Nat} {v1 v2 v3 : Value} {p : PS} (h : Bd w0 w g v1 v2 v3 p) (hl : p.n.length ≤ 900000) (hl2 : p.s.length ≤ 900000) (hl3 : p.o.length ≤ 900000) (hx : p.x.size ≤ 4294967296) (name : ByteArray) :
 Calls Tryz.prog 26 #[.pointer (some ⟨g, 0, none⟩), .string name] w fun e w' => e = .returned (.tuple #[]) ∧ ∃ v1' v2' v3', Bd w0 w' g v1' v2' v3' (beginP p name) := by
 have H := Lib.hid h
 obtain ⟨f1, f2, f3, f4⟩ := flush_lens p
 obtain ⟨q, hq⟩ : ∃ q, flushP p = q := ⟨_, rfl⟩
 have hfl := flush_c h (by omega) (by omega) (by omega) hx
 unfold beginP
 simp only
 rw [hq] at f1 f2 f3 f4 hfl ⊢
 rw [← f3] at hl3
 have HL := Lib.hid (show q.n.length ≤ 1000000 by omega)
 have HL2 := Lib.hid (show q.s.length ≤ 1000000 by omega)
 have HL3 := Lib.hid (show q.o.length ≤ 1000000 by omega)
 clear h hl hl2 f1 f2 f3 f4
 obtain ⟨b1, hb1⟩ : ∃ b1, (q.wr || (decide (topP q.o < 0) && decide (0 < q.n.length))) = b1 := ⟨_, rfl⟩
 obtain ⟨b2, hb2⟩ : ∃ b2, (q.dp || decide ((64 : Int) < q.o.length)) = b2 := ⟨_, rfl⟩
 rw [hb1, hb2]
 obtain ⟨L, hL⟩ : ∃ L, q.n.length + 1 = L := ⟨_, rfl⟩
 have e1 : IntKind.i64.wrap ((L : Int) - 1) = (q.n.length : Int) := by have := HL.out; rw [IntKind.wrap_i64]; omega
 have HLL := Lib.hid hL
 clear hL
 cases hw : q.wr <;> cases hdp : q.dp <;> by_cases ht : topP q.o < 0
 all_goals
  have HW := Lib.hid hw
  have HDP := Lib.hid hdp
  have b3 := ht
  rw [hw] at hb1
  rw [hdp] at hb2
  simp only [Bool.true_or, Bool.false_or, ht, decide_true, decide_false, Bool.true_and, Bool.false_and] at hb1 hb2
  subst hb1 hb2
  clear hw hdp
  go_enter Tryz.func26, Tryz.ntmps26
  go_wp2_with (first | (go_at_call 30; refine hfl.mono ?_; rintro e w1 ⟨rfl, u1, u2, hu⟩; obtain ⟨A1, c1, rfl, -, -⟩ := Kd.R_reads hu.r1; obtain ⟨A3, c3, rfl, -, -⟩ := Kd.R_reads hu.r3; have H1 := Lib.hid hu; have hd0 := hu.c0; have hd2 := hu.c2; have hd4 := hu.c4; have hd5 := hu.c5; have he4 := hu.f 4; have he5 := hu.f 5; rw [HW.out] at hd5; rw [HDP.out] at hd4; have HE := Lib.hid (show ∀ m (z1 z2 : Bool), Bd w0 (((w1.drewN m).setCell ⟨g, 5, none⟩ (.bool z1)).setCell ⟨g, 4, none⟩ (.bool z2)) g _ u2 _ { q with wr := z1, dp := z2 } from fun m z1 z2 => ((hu.drewN m).set { q with wr := z1 } rfl rfl rfl 5 (.bool z1) rfl).set { q with wr := z1, dp := z2 } rfl rfl rfl 4 (.bool z2) rfl); clear hu) | (go_at_call 29; refine (top_c (w0 := w0) (g := g) (p := q) (by first | exact H1.out | exact H1.out.drew | exact H1.out.drewN _) HL3.out).mono ?_; rintro e w2 ⟨rfl, n, rfl⟩) | (go_at_call 57; refine (put_c (w0 := w0) (g := g) (p := PS.mk q.n q.s q.o q.x _ _) (by first | exact HE.out _ _ _ | exact HE.out 0 _ _ | exact (HE.out _ _ _).drew) (by exact HL.out) (by exact HL2.out) (by exact HL3.out) 1 0 0 ⟨#[]⟩ name).mono ?_; rintro e w3 ⟨rfl, x1, x2, hv⟩; obtain ⟨B1, d1, rfl, -, -⟩ := Kd.R_reads hv.r1; have hg0 := hv.c0; have hg2 := hv.c2; have hgf := hv.f 2; have hga0 : ∀ o : Obj, (w3.alloc o).cell? ⟨g, 0, none⟩ = _ := fun o => (hv.below (below_alloc (Below.refl _ _) o)).c0; have hga : ∀ o : Obj, (w3.alloc o).cell? ⟨g, 2, none⟩ = _ := fun o => (hv.below (below_alloc (Below.refl _ _) o)).c2; have hlen : (q.n ++ [(⟨1, 0, topP q.o, ⟨#[]⟩⟩ : Nod)]).length = L := (by rw [← HLL.out]; simp); simp only [putP, hlen] at hg0 hga0 hga hg2; have H3 := Lib.hid hv; clear hv))
  go_region_law ((first | refine Bd.push3 (w0 := w0) (g := g) (p := PS.mk (q.n ++ [(⟨1, 0, topP q.o, ⟨#[]⟩⟩ : Nod)]) (q.s ++ [name]) q.o q.x _ _) H3.out (by exact HL3.out) (q.n.length : Int) (.tmp 49) (.tmp 56) (by rfl) (by rfl) (by rfl) (by rfl) (by rfl) ?_ | refine Bd.push3 (w0 := w0) (g := g) (p := PS.mk (q.n ++ [(⟨1, 0, topP q.o, ⟨#[]⟩⟩ : Nod)]) (q.s ++ [name]) q.o q.x _ _) H3.out.drew (by exact HL3.out) (q.n.length : Int) (.tmp 49) (.tmp 56) (by rfl) (by rfl) (by rfl) (by rfl) (by rfl) ?_); intro A4 c4 w4 hB hd0 he0 hkeep; have hB := Lib.hid hB; clear hkeep)
  all_goals
   first | go_end0 | go_ret | ((try simp only [Exit.inBlock, Exit.then]); refine bodyPost_ret (results_none rfl _ _ _) rfl ?_)
   exact ⟨rfl, _, _, _, hB.out⟩
theorem flush_s (p : PS) : ∃ t, (flushP p).s = p.s ++ t := by
 unfold flushP
 split
 ·exact ⟨[], by simp⟩
 ·split
  ·exact ⟨[], by simp⟩
  ·exact ⟨_, rfl⟩
theorem Bd.cut3 {w0 W : World} {g n c : Nat} {v1 v2 : Value} {A : Option Addr} {p : PS} (h : Bd w0 W g v1 v2 (.slice A n c) p) (m : Nat) (hm : m ≤ p.o.length) :
 Bd w0 (W.setCell ⟨g, 2, none⟩ (.slice A m c)) g v1 v2 (.slice A m c) { p with o := p.o.take m } := by
 have r3 := Kd.R_take h.r3 hm
 exact ⟨blk_set h.1 2 _, h.ge, R_away_set h.r1 rfl h.n1 2 _, R_away_set h.r2 rfl h.n2 2 _, R_away_set r3 rfl (Kd.R_ne r3 h.1 (by decide)) 2 _, h.bel.setCell h.ge _⟩
set_option maxHeartbeats 16000000 in
set_option maxRecDepth 100000 in
theorem end_c {w0 w : World} {g : Nat} {v1 v2 v3 : Value} {p : PS} (h : Bd w0 w g v1 v2 v3 p) (hl : p.n.length ≤ 900000) (hl2 : p.s.length ≤ 900000) (hl3 : p.o.length ≤ 900000) (hx : p.x.size ≤ 4294967296) (hI : topP p.o < (p.s.length : Int)) (name : ByteArray) :
 Calls Tryz.prog 28 #[.pointer (some ⟨g, 0, none⟩), .string name] w fun e w' => e = .returned (.tuple #[]) ∧ ∃ v1' v2' v3', Bd w0 w' g v1' v2' v3' (endP p name) := by
 have H := Lib.hid h
 obtain ⟨f1, f2, f3, f4⟩ := flush_lens p
 obtain ⟨t5, f5⟩ := flush_s p
 obtain ⟨q, hq⟩ : ∃ q, flushP p = q := ⟨_, rfl⟩
 have hfl := flush_c h (by omega) (by omega) (by omega) hx
 unfold endP
 simp only
 rw [hq] at f1 f2 f3 f4 f5 hfl ⊢
 rw [← f3] at hl3 hI
 have hI2 : topP q.o < (q.s.length : Int) := by rw [f5, List.length_append]; omega
 have HL3 := Lib.hid (show q.o.length ≤ 1000000 by omega)
 clear h hl hl2 f1 f2 f3 f4 f5 hI
 by_cases ht : topP q.o < 0
 ·rw [if_pos (Or.inl ht)]
  have b1 := eq_true ht
  clear hI2
  go_enter Tryz.func28, Tryz.ntmps28
  go_wp2_with (first | (go_at_call 30; refine hfl.mono ?_; rintro e w1 ⟨rfl, u1, u2, hu⟩; have hd5 := hu.c5; have he5 := hu.f 5; have H1 := Lib.hid hu; clear hu) | (go_at_call 29; refine (top_c (w0 := w0) (g := g) (p := q) (by first | exact H1.out | exact H1.out.drew | exact H1.out.drewN _) HL3.out).mono ?_; rintro e w2 ⟨rfl, n, rfl⟩))
  first | go_end0 | go_ret | ((try simp only [Exit.inBlock, Exit.then]); refine bodyPost_ret (results_none rfl _ _ _) rfl ?_)
  exact ⟨rfl, _, _, _, (H1.out.drewN n).set { q with wr := true } rfl rfl rfl 5 (.bool true) rfl⟩
 ·have b1 := eq_false ht
  obtain ⟨T, hT⟩ : ∃ T, topP q.o = T := ⟨_, rfl⟩
  have hT0 : 0 ≤ T := by omega
  have hne : 0 < q.o.length := by
   cases ho : q.o with
   | nil => exfalso; apply ht; rw [ho]; decide
   | cons a b => simp
  rw [hT] at hI2 b1 ht ⊢
  have p0 := eq_true hT0
  have p1 := eq_true hI2
  obtain ⟨S, hS⟩ : ∃ S : ByteArray, q.s.getD T.toNat ⟨#[]⟩ = S := ⟨_, rfl⟩
  have HI := Lib.hid hI2
  have HT0 := Lib.hid hT0
  have HS := Lib.hid hS
  have HN := Lib.hid hne
  have HT := Lib.hid hT
  rw [hS]
  by_cases hd : S.data.toList = name.data.toList
  ·rw [if_neg (by rintro (h | h); exact ht h; exact h hd)]
   have b2 : (S.toList == name.toList) = true := by rw [Lib.toList_data, Lib.toList_data, hd]; exact beq_self_eq_true _
   have b3 : (S.toList != name.toList) = false := by rw [bne, b2]; rfl
   have b4 : S.toList = name.toList := by rw [Lib.toList_data, Lib.toList_data, hd]
   obtain ⟨L, hL⟩ : ∃ L, q.o.length = L := ⟨_, rfl⟩
   obtain ⟨M, hM⟩ : ∃ M, L = M + 1 := ⟨L - 1, by omega⟩
   have HM := Lib.hid (show q.o.length = M + 1 by omega)
   have e1 : IntKind.i64.wrap ((L : Int) - 1) = (M : Int) := by have := HL3.out; rw [IntKind.wrap_i64]; omega
   have HLL := Lib.hid hL
   have HLM := Lib.hid hM
   have hdl : q.o.dropLast = q.o.take M := by rw [List.dropLast_eq_take, HM.out, Nat.add_sub_cancel]
   rw [hdl]
   clear hdl hne hI2 hT0 hT hS hL hM
   go_enter Tryz.func28, Tryz.ntmps28
   go_wp2_with (first | (go_at_call 30; refine hfl.mono ?_; rintro e w1 ⟨rfl, u1, u2, hu⟩; obtain ⟨A2, c2, rfl, -, hC⟩ := Kd.R_reads hu.r2; obtain ⟨ad, rfl, hr⟩ := Kd.at_string hC T HT0.out HI.out; rw [show rdOf ByteArray.empty q.s T = S from HS.out] at hr; obtain ⟨A3, c3, rfl, hle3, -⟩ := Kd.R_reads hu.r3; have hd1 := hu.c1; have hd2 := hu.c2; have he2 := hu.f 2; rw [HLL.out] at hd2 hle3; have p2 : ((M : Int) ≤ (c3 : Int)) := (by have := HLM.out; omega); have p3 := eq_true p2; have H1 := Lib.hid hu; clear hu hC) | (go_at_call 29; refine (top_c (w0 := w0) (g := g) (p := q) (by first | exact H1.out | exact H1.out.drew | exact H1.out.drewN _) HL3.out).mono ?_; rw [HT.out]; rintro e w2 ⟨rfl, n, rfl⟩))
   go_region
   all_goals
    first | go_end0 | go_ret | ((try simp only [Exit.inBlock, Exit.then]); refine bodyPost_ret (results_none rfl _ _ _) rfl ?_)
    first
     | exact ⟨rfl, _, _, _, Bd.cut3 (by first | exact H1.out | exact H1.out.drewN _ | exact (H1.out.drewN _).drew) M (by have := HM.out; omega)⟩
     | exact ⟨rfl, _, _, _, Bd.cut3 (by first | exact (H1.out.drewN _).drew.drew | exact (H1.out.drewN _).drew.drew.drew) M (by have := HM.out; omega)⟩
  ·rw [if_pos (Or.inr hd)]
   have b2 : (S.toList == name.toList) = false := by rw [Lib.toList_data, Lib.toList_data, beq_eq_false_iff_ne]; exact hd
   have b3 : (S.toList != name.toList) = true := by rw [bne, b2]; rfl
   have b4 : ¬ S.toList = name.toList := by rw [Lib.toList_data, Lib.toList_data]; exact hd
   clear hne hI2 hT0 hT hS
   go_enter Tryz.func28, Tryz.ntmps28
   go_wp2_with (first | (go_at_call 30; refine hfl.mono ?_; rintro e w1 ⟨rfl, u1, u2, hu⟩; obtain ⟨A2, c2, rfl, -, hC⟩ := Kd.R_reads hu.r2; obtain ⟨ad, rfl, hr⟩ := Kd.at_string hC T HT0.out HI.out; rw [show rdOf ByteArray.empty q.s T = S from HS.out] at hr; have hd1 := hu.c1; have hd5 := hu.c5; have he5 := hu.f 5; have H1 := Lib.hid hu; clear hu hC) | (go_at_call 29; refine (top_c (w0 := w0) (g := g) (p := q) (by first | exact H1.out | exact H1.out.drew | exact H1.out.drewN _) HL3.out).mono ?_; rw [HT.out]; rintro e w2 ⟨rfl, n, rfl⟩))
   first | go_end0 | go_ret | ((try simp only [Exit.inBlock, Exit.then]); refine bodyPost_ret (results_none rfl _ _ _) rfl ?_)
   exact ⟨rfl, _, _, _, (H1.out.drewN n).set { q with wr := true } rfl rfl rfl 5 (.bool true) rfl⟩
end Go.Proofs.YtlhhhlimjajnlaaGreat.X
end
