/- Parts of the proof of canonSpoilt_holds, kept and merged by a program of mine (wip/tools/slim.py) out of my texts: RCk -/
import Derived.Test.YtlhhhlimjajnlaaGreatSSp0
import Derived.Deep.RegionHeld3
import Derived.Deep.QuietTactic
import Derived.Test.YtlhhhlimjajnlaaGreatSSp20
import Derived.Test.YtlhhhlimjajnlaaGreatSSp37
import Derived.Test.YtlhhhlimjajnlaaGreatSSp24
section
set_option linter.unusedVariables false
set_option linter.unusedSimpArgs false
namespace Go.Proofs.YtlhhhlimjajnlaaGreat.X
open Go.RowKit Go.Proofs.YtlhhhlimjajnlaaGreat Go.Proofs.YtlhhhlimjajnlaaGreat.Q Go.Proofs.YtlhhhlimjajnlaaGreat.P11 Go.Proofs.YtlhhhlimjajnlaaGreat.P14 Go.Proofs.YtlhhhlimjajnlaaGreat.Ck Go.Proofs.YtlhhhlimjajnlaaGreatW.PrintWords Go.Proofs.YtlhhhlimjajnlaaGreatW.PrintLast Go.Proofs.YtlhhhlimjajnlaaGreatW.PrintMore
attribute [local go_sem] max2_int min2_int max_two min_two str_geq   
theorem ck_cases {N : List ByteArray} {D : List Nod} {res : Int} {i : Nat} (hb : D.length ≤ 5000) (hi : i < D.length) (hL : Lp N D res i) : okNod N.length (D.getD i nz) = false ∧ res = 1 ∨ okNod N.length (D.getD i nz) = true ∧ ((D.getD i nz).f0 = 1 ∨ (D.getD i nz).f0 = 2 ∨ (D.getD i nz).f0 = 3) ∧ (i = 0 ∧ Lp N D res (i + 1) ∨ 0 < i ∧ ∃ op, Rw (D.take i) op ∧ (((D.getD i nz).f2 < 0 ∨ 0 ≤ (D.getD i nz).f2 ∧ (i : Int) ≤ (D.getD i nz).f2) ∧ res = 1 ∨
 0 ≤ (D.getD i nz).f2 ∧ (D.getD i nz).f2 < (i : Int) ∧ (¬ (D.getD (D.getD i nz).f2.toNat nz).f0 = 1 ∧ res = 1 ∨ (D.getD (D.getD i nz).f2.toNat nz).f0 = 1 ∧ (¬ (D.getD i nz).f2 ∈ op ∧ res = 1 ∨ (D.getD i nz).f2 ∈ op ∧ ∃ j, op[j]? = some (D.getD i nz).f2 ∧ j < 100000 ∧ ((D.getD i nz).f0 = 1 ∧ 64 < j + 1 ∧ res = 1 ∨ ¬ ((D.getD i nz).f0 = 1 ∧ 64 < j + 1) ∧ (jb D (bef D (D.getD i nz).f2 i) (D.getD i nz).f0 = true ∧ res = 1 ∨ jb D (bef D (D.getD i nz).f2 i) (D.getD i nz).f0 = false ∧
  ((D.getD i nz).f0 = 2 → (∃ k, k < i ∧ (D.getD i nz).f2 < (k : Int) ∧ dup D (D.getD i nz) k) → res = 1) ∧ (¬ ((D.getD i nz).f0 = 2 ∧ ∃ k, k < i ∧ (D.getD i nz).f2 < (k : Int) ∧ dup D (D.getD i nz) k) → Lp N D res (i + 1)))))))) := by
 by_cases c : okNod N.length (D.getD i nz) = true
 case neg =>
  have c' : okNod N.length (D.getD i nz) = false := by simpa using c
  refine .inl ⟨c', ?_⟩
  cases i with
  | zero => exact hL.1 c'
  | succ i => obtain ⟨op, -, hr⟩ := hL; exact step_bad hi hr c'
 have hkind : (D.getD i nz).f0 = 1 ∨ (D.getD i nz).f0 = 2 ∨ (D.getD i nz).f0 = 3 := by
  unfold okNod at c
  rw [Bool.and_eq_true] at c
  exact named_kinds c.1
 refine .inr ⟨c, hkind, ?_⟩
 by_cases h0 : i = 0
 ·subst h0
  exact .inl ⟨rfl, _, (hL.2 c).1, (hL.2 c).2⟩
 refine .inr ⟨by omega, ?_⟩
 obtain ⟨op, hR, hr⟩ : ∃ op, Rw (D.take i) op ∧ rsV N D i op = res := by
  cases i with
  | zero => exact absurd rfl h0
  | succ i => exact hL
 refine ⟨op, hR, ?_⟩
 have hin : (D.getD i nz).f2 ∈ op → 0 ≤ (D.getD i nz).f2 ∧ (D.getD i nz).f2 < (i : Int) ∧ (D.getD (D.getD i nz).f2.toNat nz).f0 = 1 := fun e => by
  obtain ⟨j, hj⟩ := List.mem_iff_getElem?.1 e
  obtain ⟨p1, p2, p3, p4⟩ := hR.at hj
  rw [take_len (by omega)] at p2
  rw [take_get p2 (by omega)] at p3
  exact ⟨p1, by omega, p3⟩
 by_cases c1 : (D.getD i nz).f2 < 0
 ·exact .inl ⟨.inl c1, step_out hi (by omega) hr fun e => by have := (hin e).1; omega⟩
 by_cases c2 : (i : Int) ≤ (D.getD i nz).f2
 ·exact .inl ⟨.inr ⟨by omega, c2⟩, step_out hi (by omega) hr fun e => by have := (hin e).2.1; omega⟩
 refine .inr ⟨by omega, by omega, ?_⟩
 by_cases c3 : (D.getD (D.getD i nz).f2.toNat nz).f0 = 1
 case neg => exact .inl ⟨c3, step_out hi (by omega) hr fun e => c3 (hin e).2.2⟩
 refine .inr ⟨c3, ?_⟩
 by_cases c4 : (D.getD i nz).f2 ∈ op
 case neg => exact .inl ⟨c4, step_out hi (by omega) hr c4⟩
 obtain ⟨j, hj⟩ := List.mem_iff_getElem?.1 c4
 have hl := op_short hb (by omega) hR
 have hjl := (List.getElem?_eq_some_iff.1 hj).1
 obtain ⟨s1, s2, s3, s4⟩ := step_in hi (by omega) hR hr c hj
 refine .inr ⟨c4, j, hj, by omega, ?_⟩
 by_cases c5 : (D.getD i nz).f0 = 1 ∧ 64 < j + 1
 ·exact .inl ⟨c5.1, c5.2, s1 c5.1 c5.2⟩
 refine .inr ⟨c5, ?_⟩
 cases c6 : jb D (bef D (D.getD i nz).f2 i) (D.getD i nz).f0
 ·exact .inr ⟨rfl, s3, s4 c5 c6⟩
 ·exact .inl ⟨rfl, s2 c6⟩
theorem bef_in {N : List ByteArray} {D : List Nod} {i : Nat} {op : List Int} (hi : i ≤ D.length) (h : Rw (D.take i) op) {p : Int} (hp : 0 ≤ p) : bef D p i = -1 ∨ ∃ b : Nat, b < i ∧ bef D p i = (b : Int) := by
 rcases bef_kids hi h hp i (Nat.le_refl _) with ⟨e, -⟩ | ⟨b, hb, e, -⟩
 ·exact .inl e
 ·exact .inr ⟨b, hb, e⟩
theorem jb_cases {D : List Nod} {b x0 : Int} {r : Bool} (h : jb D b x0 = r) (hk : x0 = 1 ∨ x0 = 2 ∨ x0 = 3) (hb : b = -1 ∨ ∃ k : Nat, b = (k : Int)) : b = -1 ∧ r = false ∨ ∃ k : Nat, b = (k : Int) ∧ (x0 = 1 ∧ r = false ∨ x0 = 2 ∧ r = !((D.getD k nz).f0 == 2) ∨ x0 = 3 ∧ r = ((D.getD k nz).f0 == 3)) := by
 unfold jb at h
 rcases hb with rfl | ⟨k, rfl⟩
 ·exact .inl ⟨rfl, by rw [← h]; rfl⟩
 ·refine .inr ⟨k, rfl, ?_⟩
  rw [if_pos (by omega), Int.toNat_natCast] at h
  rcases hk with rfl | rfl | rfl
  ·exact .inl ⟨rfl, by rw [← h]; rfl⟩
  ·exact .inr (.inl ⟨rfl, by rw [← h]; rfl⟩)
  ·exact .inr (.inr ⟨rfl, by rw [← h]; rfl⟩)
section
variable {N : List ByteArray} {D : List Nod} {w : World} {AN AD : Option Addr} {cN cD nn n : Nat}
set_option maxHeartbeats 8000000 in
set_option maxRecDepth 100000 in
theorem refcheck_h (hnn : N.length = nn) (hnD : D.length = n) (hN : Kd.C Kd.string w AN nn N) (hcN : nn ≤ cN) (hD : Kd.C k41 w AD n D) (hcD : n ≤ cD) (hs : ∀ x, x ∈ N → x.size ≤ 1000000000) (hx : ∀ x, x ∈ D → x.f3.size ≤ 1000000000) :
 Calls Tryz.prog 20 #[.agg #[.slice AN nn cN, .slice AD n cD]] w fun e w' => e = .returned (.int .i64 (checkV N D)) ∧ Below w.heap.size w w' := by
 obtain ⟨res, hres⟩ : ∃ res, checkV N D = res := ⟨_, rfl⟩
 by_cases hsz : n = 0 ∨ 5000 < n ∨ 1000 < nn
 ·have hr1 : res = 1 := by rw [← hres]; unfold checkV; rw [if_pos (by rw [hnD, hnn]; exact hsz)]
  rw [hres, hr1]
  clear hres hr1
  have hq : ((((n : Int) == 0) = true) ∨ (((n : Int) == 0) = false ∧ ((5000 : Int) < (n : Int)) = True) ∨ (((n : Int) == 0) = false ∧ ((5000 : Int) < (n : Int)) = False ∧ ((1000 : Int) < (nn : Int)) = True)) := by
   by_cases c1 : n = 0
   ·exact .inl (by rw [c1]; rfl)
   ·have e1 : ((n : Int) == 0) = false := by rw [beq_eq_false_iff_ne]; omega
    by_cases c2 : 5000 < n
    ·exact .inr (.inl ⟨e1, eq_true (by omega)⟩)
    ·exact .inr (.inr ⟨e1, eq_false (by omega), eq_true (by omega)⟩)
  clear hsz
  rcases hq with q1 | ⟨q1, q2⟩ | ⟨q1, q2, q3⟩
  all_goals
   go_enter Tryz.func20, Tryz.ntmps20
   go_wp2
   go_ret
   exact ⟨rfl, below_alloc (Below.refl _ _) _⟩
 have n1 : 0 < n := by omega
 have n2 : n ≤ 5000 := by omega
 have n3 : nn ≤ 1000 := by omega
 have q1 : ((n : Int) == 0) = false := by rw [beq_eq_false_iff_ne]; omega
 have q2 : ((5000 : Int) < (n : Int)) = False := eq_false (by omega)
 have q3 : ((1000 : Int) < (nn : Int)) = False := eq_false (by omega)
 obtain ⟨b1, b2⟩ := check_begin (N := N) (D := D) (by omega) (by omega) (by omega)
 obtain ⟨ad, hA, r0, r1, r2, r3⟩ := at_T41 hD (0 : Int) (by omega) (by omega)
 have hrd : rd_T41 D (0 : Int) = D.getD 0 nz := rfl
 rw [hrd, show ad.add ((0 : Int).toNat * 4) = ad from by simp [Addr.add]] at r0 r1 r2 r3
 subst hA
 obtain ⟨x0, hx0⟩ : ∃ x0, D.getD 0 nz = x0 := ⟨_, rfl⟩
 rw [hx0] at r0 r1 r2 r3 b1 b2
 have hbo : ∀ o, Below w.heap.size w (w.alloc o) := fun o => below_alloc (Below.refl _ _) o
 by_cases hroot : x0.f0 = 1 ∧ x0.f2 = -1
 case neg =>
  have hr1 := b1 hroot
  rw [hr1]
  have hq : ((x0.f0 != 1) = true) ∨ ((x0.f0 != 1) = false ∧ (x0.f2 != -1) = true) := by
   by_cases c : x0.f0 = 1
   ·exact .inr ⟨by rw [c]; rfl, by simpa using fun e => hroot ⟨c, e⟩⟩
   ·exact .inl (by simpa using c)
  have u0 := ((hbo (.cells #[.slice AN nn cN, .slice (some ad) n cD] 27)).cell (World.block_lt_of_cell? w _ r0)).trans r0
  have u2 := ((hbo (.cells #[.slice AN nn cN, .slice (some ad) n cD] 27)).cell (World.block_lt_of_cell? w _ r2)).trans r2
  clear b1 b2 hroot hr1 hres
  rcases hq with q4 | ⟨q4, q5⟩
  all_goals
   go_enter Tryz.func20, Tryz.ntmps20
   go_wp2
   go_ret
   exact ⟨rfl, below_alloc (Below.refl _ _) _⟩
 have q4 : (x0.f0 != 1) = false := by rw [hroot.1]; rfl
 have q5 : (x0.f2 != -1) = false := by rw [hroot.2]; rfl
 have u0 := ((hbo (.cells #[.slice AN nn cN, .slice (some ad) n cD] 27)).cell (World.block_lt_of_cell? w _ r0)).trans r0
 have u2 := ((hbo (.cells #[.slice AN nn cN, .slice (some ad) n cD] 27)).cell (World.block_lt_of_cell? w _ r2)).trans r2
 have HLP := Lib.hid (b2 hroot)
 rw [hres] at HLP ⊢
 have HSN := Lib.hid hs
 have HSD := Lib.hid hx
 have hbA := below_alloc (Below.refl w.heap.size w) (.cells #[.slice AN nn cN, .slice (some ad) n cD] 27)
 have hkA := blk_new w (.cells #[.slice AN nn cN, .slice (some ad) n cD] 27)
 have hw1 := fun W (hW : Below (w.alloc (.cells #[.slice AN nn cN, .slice (some ad) n cD] 27)).heap.size (w.alloc (.cells #[.slice AN nn cN, .slice (some ad) n cD] 27)) W) => below_step hbA hW
 have hc1 := fun W (hW : Below (w.alloc (.cells #[.slice AN nn cN, .slice (some ad) n cD] 27)).heap.size (w.alloc (.cells #[.slice AN nn cN, .slice (some ad) n cD] 27)) W) => (⟨(blk_cell (blk_below hkA hW) 0).trans rfl, (blk_cell (blk_below hkA hW) 1).trans rfl⟩ : W.cell? ⟨w.heap.size, 0, none⟩ = some (.slice AN nn cN) ∧ W.cell? ⟨w.heap.size, 1, none⟩ = some (.slice (some ad) n cD))
 have hel : ∀ (k : Nat), k < n → ∀ W, Below w.heap.size w W → W.cell? (ad.add (k * 4)) = some (.int .i64 (D.getD k nz).f0) ∧ W.cell? ⟨(ad.add (k * 4)).block, (ad.add (k * 4)).off + 1, none⟩ = some (.int .i64 (D.getD k nz).f1) ∧ W.cell? ⟨(ad.add (k * 4)).block, (ad.add (k * 4)).off + 2, none⟩ = some (.int .i64 (D.getD k nz).f2) ∧ W.cell? ⟨(ad.add (k * 4)).block, (ad.add (k * 4)).off + 3, none⟩ = some (.string (D.getD k nz).f3) := fun k hk W hW => by
  obtain ⟨ad', hA', r0, r1, r2, r3⟩ := at_T41 hD (k : Int) (by omega) (by omega)
  obtain rfl := Option.some.inj hA'
  have hc : ∀ {p v}, w.cell? p = some v → W.cell? p = some v := fun h => (hW.cell (World.block_lt_of_cell? w _ h)).trans h
  rw [show rd_T41 D (k : Int) = D.getD k nz from rfl, Int.toNat_natCast] at r0 r1 r2 r3
  exact ⟨hc r0, hc r1, hc r2, hc r3⟩
 have hnm : ∀ (k : Nat), k < nn → ∃ an, AN = some an ∧ ∀ W, Below w.heap.size w W → W.cell? (an.add k) = some (.string (N.getD k ⟨#[]⟩)) := fun k hk => by
  obtain ⟨an, hA', r0⟩ := Kd.at_string hN (k : Int) (by omega) (by omega)
  rw [show rdOf ByteArray.empty N (k : Int) = N.getD k ⟨#[]⟩ from rfl, Int.toNat_natCast] at r0
  exact ⟨an, hA', fun W hW => (hW.cell (World.block_lt_of_cell? w _ r0)).trans r0⟩
 have hcall : ∀ (i : Nat), i < n → ∀ W, Below w.heap.size w W → Calls Tryz.prog 49 #[.agg #[.slice AN nn cN, .slice (some ad) n cD], .int .i64 i] W fun e w' => e = .returned (.bool (okNod N.length (D.getD i nz))) ∧ Below W.heap.size W w' := fun i hi W hW => by
  have hm : D.getD i nz ∈ D := by rw [List.getD_eq_getElem?_getD, List.getElem?_eq_getElem (by omega)]; exact List.getElem_mem _
  rw [hnn]
  exact node_h hnD (Kd.C_below hD hW) hi (hx _ hm)
 have haround : ∀ (i : Nat) (op : List Int) (p : Int), i < n → 0 < i → Rw (D.take i) op → (D.getD p.toNat nz).f0 = 1 → 0 ≤ p → ∀ W, Below w.heap.size w W → Calls Tryz.prog 50 #[.agg #[.slice AN nn cN, .slice (some ad) n cD], .int .i64 p, .int .i64 ((i : Int) - 1)] W fun e w' => e = .returned (.bool (decide (p ∈ op))) ∧ Below W.heap.size W w' := fun i op p hi h0 hr hp hp0 W hW => by
  obtain ⟨K, hK⟩ := around_ev (N := N) (by omega) (by omega) h0 hr hp hp0
  have h1 := hK K (Nat.le_refl _)
  rw [wrM i (by omega)] at h1
  have := R4_around.calls K AN cN N (some ad) cD D p _ _ W (by rw [hnn]; exact Kd.C_below hN hW) (by omega) (by rw [hnD]; exact Kd.C_below hD hW) (by omega) h1
  rw [hnn, hnD] at this
  exact this
 have hbefore : ∀ (i : Nat), i < n → 0 ≤ (D.getD i nz).f2 → ∀ W, Below w.heap.size w W → Calls Tryz.prog 51 #[.agg #[.slice AN nn cN, .slice (some ad) n cD], .int .i64 i] W fun e w' => e = .returned (.int .i64 (bef D (D.getD i nz).f2 i)) ∧ Below W.heap.size W w' := fun i hi hp W hW => by
  obtain ⟨K, hK⟩ := before_ev (N := N) (by omega) (by omega) hp
  have := R4_before.calls K AN cN N (some ad) cD D (i : Int) _ W (by rw [hnn]; exact Kd.C_below hN hW) (by omega) (by rw [hnD]; exact Kd.C_below hD hW) (by omega) (hK K (Nat.le_refl _))
  rw [hnn, hnD] at this
  exact this
 have hdepth : ∀ (i : Nat) (op : List Int) (j : Nat), i < n → Rw (D.take i) op → op[j]? = some (D.getD i nz).f2 → ∀ W, Below w.heap.size w W → Calls Tryz.prog 52 #[.agg #[.slice AN nn cN, .slice (some ad) n cD], .int .i64 i] W fun e w' => e = .returned (.int .i64 ((j + 1 : Nat) : Int)) ∧ Below W.heap.size W w' := fun i op j hi hr hj W hW => by
  obtain ⟨K, hK⟩ := depth_ev (N := N) (by omega) hr (op_short (by omega) (by omega) hr) hj
  have := R4_depth.calls K AN cN N (some ad) cD D (i : Int) _ W (by rw [hnn]; exact Kd.C_below hN hW) (by omega) (by rw [hnD]; exact Kd.C_below hD hW) (by omega) (hK K (Nat.le_refl _))
  rw [hnn, hnD] at this
  exact this
 have HW1 := Lib.hid hw1
 have HC1 := Lib.hid hc1
 have HEL := Lib.hid hel
 have HNM := Lib.hid hnm
 have HND := Lib.hid hcall
 have HAR := Lib.hid haround
 have HBE := Lib.hid hbefore
 have HDE := Lib.hid hdepth
 have HnD := Lib.hid hnD
 have HnN := Lib.hid hnn
 have HSZ := Lib.hid (show 0 < n ∧ n ≤ 5000 ∧ nn ≤ 1000 from ⟨n1, n2, n3⟩)
 clear b1 b2 hroot hN hD hcN hcD hs hx hx0 hrd r0 r1 r2 r3 hbo hsz hw1 hc1 hel hnm hcall haround hbefore hdepth hnD hnn hkA hbA hres
 go_enter Tryz.func20, Tryz.ntmps20
 go_wp2
 clear u0 u2 q1 q2 q3 q4 q5
 generalize w.alloc (.cells #[.slice AN nn cN, .slice (some ad) n cD] 27) = wA at HW1 HC1 ⊢
 go_loopw [3] (fun v3 wr => ∃ i : Nat, i ≤ n ∧ v3 = .int .i64 i ∧ Hid (Lp N D res i) ∧ Hid (Below wA.heap.size wA wr)) (fun v3 wr => n - (intOf v3).toNat)
 case atStart => exact ⟨0, by omega, rfl, HLP, Lib.hid (Below.refl _ _)⟩
 case round =>
  as_aux_lemma =>
   clear HLP
   obtain ⟨i, hi, rfl, HL, HB⟩ := hrel
   obtain ⟨d0, d1⟩ := HC1.out _ HB.out
   by_cases hlt : i < n
   ·obtain ⟨e0, e1, e2, e3⟩ := HEL.out i hlt _ (HW1.out _ HB.out)
    have hck := ck_cases (N := N) (D := D) (by have := HnD.out; have := HSZ.out; omega) (by have := HnD.out; omega) HL.out
    have hnd := HND.out i hlt
    have hbe0 := HBE.out i hlt
    have hde0 := fun op j => HDE.out i op j hlt
    obtain ⟨⟨x0, x1, x2, x3⟩, hx⟩ : ∃ x, D.getD i nz = x := ⟨_, rfl⟩
    rw [hx] at e0 e1 e2 e3 hck hbe0
    simp only [hx] at hde0
    dsimp only at e0 e1 e2 e3 hck hbe0 hde0
    have p1 : ((0 : Int) ≤ (i : Int)) = True := eq_true (by omega)
    have p2 : ((i : Int) < (n : Int)) = True := eq_true (by omega)
    have e9 : IntKind.i64.wrap ((i : Int) + 1) = ((i + 1 : Nat) : Int) := by have := HSZ.out; rw [IntKind.wrap_i64]; omega
    have hB1 := blk_new wr (.cells #[.int .i64 x0, .int .i64 x1, .int .i64 x2, .string x3] 41)
    have hb01 := below_alloc (Below.refl wr.heap.size wr) (.cells #[.int .i64 x0, .int .i64 x1, .int .i64 x2, .string x3] 41)
    have BA := Lib.hid (fun W (hW : Below (wr.alloc (.cells #[.int .i64 x0, .int .i64 x1, .int .i64 x2, .string x3] 41)).heap.size (wr.alloc (.cells #[.int .i64 x0, .int .i64 x1, .int .i64 x2, .string x3] 41)) W) => below_step HB.out (below_step hb01 hW))
    have BW := Lib.hid (fun W (hW : Below (wr.alloc (.cells #[.int .i64 x0, .int .i64 x1, .int .i64 x2, .string x3] 41)).heap.size (wr.alloc (.cells #[.int .i64 x0, .int .i64 x1, .int .i64 x2, .string x3] 41)) W) => HW1.out _ (BA.out W hW))
    have CX := Lib.hid (fun W (hW : Below (wr.alloc (.cells #[.int .i64 x0, .int .i64 x1, .int .i64 x2, .string x3] 41)).heap.size (wr.alloc (.cells #[.int .i64 x0, .int .i64 x1, .int .i64 x2, .string x3] 41)) W) => (⟨(HC1.out _ (BA.out W hW)).1, (HC1.out _ (BA.out W hW)).2, (blk_cell (blk_below hB1 hW) 0).trans rfl, (blk_cell (blk_below hB1 hW) 1).trans rfl, (blk_cell (blk_below hB1 hW) 2).trans rfl⟩ : W.cell? ⟨w.heap.size, 0, none⟩ = some (.slice AN nn cN) ∧ W.cell? ⟨w.heap.size, 1, none⟩ = some (.slice (some ad) n cD) ∧ W.cell? ⟨wr.heap.size, 0, none⟩ = some (.int .i64 x0) ∧ W.cell? ⟨wr.heap.size, 1, none⟩ = some (.int .i64 x1) ∧ W.cell? ⟨wr.heap.size, 2, none⟩ = some (.int .i64 x2)))
    obtain ⟨c0, c1, c2, c3, c4⟩ := CX.out _ (Below.refl _ _)
    have HX := Lib.hid hx
    have HLT := Lib.hid hlt
    clear hB1 hb01 hx HL hlt
    rcases hck with ⟨k1, hr⟩ | ⟨k1, hkind, ⟨h0, hL2⟩ | ⟨h0, op, hR, hck⟩⟩
    ·rw [HX.out] at hnd
     rw [k1] at hnd
     subst hr
     clear k1 hbe0 hde0
     go_wp2_with (go_at_call 49; refine (hnd _ (BW.out _ (Below.refl _ _))).mono ?_; rintro e w2 ⟨rfl, hb2⟩; have HB2 := Lib.hid hb2; obtain ⟨c0, c1, c2, c3, c4⟩ := CX.out _ hb2; try (obtain ⟨y0, -, -, -⟩ := hpar _ (BW.out _ hb2)); clear hb2)
     go_ret
     exact ⟨rfl, BW.out _ HB2.out⟩
    ·rw [HX.out] at hnd
     rw [k1] at hnd
     have q1 : ((i : Int) == 0) = true := by rw [h0]; rfl
     have HL2 := Lib.hid hL2
     clear k1 hL2 h0 hkind hbe0 hde0
     go_wp2_with (go_at_call 49; refine (hnd _ (BW.out _ (Below.refl _ _))).mono ?_; rintro e w2 ⟨rfl, hb2⟩; have HB2 := Lib.hid hb2; obtain ⟨c0, c1, c2, c3, c4⟩ := CX.out _ hb2; try (obtain ⟨y0, -, -, -⟩ := hpar _ (BW.out _ hb2)); clear hb2)
     have := HLT.out
     go_roundw
     case rel => exact ⟨i + 1, by omega, by first | rfl | go_num, HL2, Lib.hid (BA.out _ HB2.out)⟩
     case measure => simp [intOf]; omega
    rw [HX.out] at hnd
    rw [k1] at hnd
    have q1 : ((i : Int) == 0) = false := by rw [beq_eq_false_iff_ne]; omega
    have ew : IntKind.i64.wrap ((i : Int) - 1) = (i : Int) - 1 := by have := HSZ.out; have := HLT.out; rw [IntKind.wrap_i64]; omega
    have HR := Lib.hid hR
    have H0 := Lib.hid h0
    clear hR k1 h0
    rcases hck with ⟨hq, hr⟩ | ⟨k2, k3, hck⟩
    ·have q2 : (x2 < 0) = True ∨ (x2 < 0) = False ∧ ((i : Int) ≤ x2) = True := by
      rcases hq with hq | ⟨hq, hq'⟩
      ·exact .inl (eq_true hq)
      ·exact .inr ⟨eq_false (by omega), eq_true hq'⟩
     subst hr
     clear hq hkind hbe0 hde0
     rcases q2 with q2 | ⟨q2, q3⟩
     all_goals
      go_wp2_with (go_at_call 49; refine (hnd _ (BW.out _ (Below.refl _ _))).mono ?_; rintro e w2 ⟨rfl, hb2⟩; have HB2 := Lib.hid hb2; obtain ⟨c0, c1, c2, c3, c4⟩ := CX.out _ hb2; try (obtain ⟨y0, -, -, -⟩ := hpar _ (BW.out _ hb2)); clear hb2)
      go_ret
      exact ⟨rfl, BW.out _ HB2.out⟩
    have q2 : (x2 < 0) = False := eq_false (by omega)
    have q3 : ((i : Int) ≤ x2) = False := eq_false (by omega)
    have q4 : ((0 : Int) ≤ x2) = True := eq_true k2
    have q5 : (x2 < (n : Int)) = True := eq_true (zz33)
    have hpar := HEL.out x2.toNat (zz33)
    have har0 := fun hp => HAR.out i op x2 HLT.out H0.out HR.out hp k2
    obtain ⟨⟨y0, y1, y2, y3⟩, hy⟩ : ∃ y, D.getD x2.toNat nz = y := ⟨_, rfl⟩
    rw [hy] at hpar hck har0
    dsimp only at hpar hck har0
    clear hy
    rcases hck with ⟨k4, hr⟩ | ⟨k4, hck⟩
    ·have q6 : (y0 != 1) = true := by simpa using k4
     subst hr
     clear k4 hkind hbe0 hde0 har0
     go_wp2_with (go_at_call 49; refine (hnd _ (BW.out _ (Below.refl _ _))).mono ?_; rintro e w2 ⟨rfl, hb2⟩; have HB2 := Lib.hid hb2; obtain ⟨c0, c1, c2, c3, c4⟩ := CX.out _ hb2; try (obtain ⟨y0, -, -, -⟩ := hpar _ (BW.out _ hb2)); clear hb2)
     go_ret
     exact ⟨rfl, BW.out _ HB2.out⟩
    have q6 : (y0 != 1) = false := by simpa using k4
    have har := har0 k4
    clear har0
    rcases hck with ⟨k5, hr⟩ | ⟨k5, j, hj, hj2, hck⟩
    ·rw [decide_eq_false k5] at har
     subst hr
     clear k4 k5 hkind hbe0 hde0
     go_wp2_with (first | (go_at_call 49; refine (hnd _ (BW.out _ (Below.refl _ _))).mono ?_; rintro e w2 ⟨rfl, hb2⟩; have HB2 := Lib.hid hb2; obtain ⟨c0, c1, c2, c3, c4⟩ := CX.out _ hb2; try (obtain ⟨y0, -, -, -⟩ := hpar _ (BW.out _ hb2)); clear hb2) | (go_at_call 50; refine (har _ (BW.out _ HB2.out)).mono ?_; rintro e w3 ⟨rfl, hb3⟩; have HB3 := Lib.hid (below_step HB2.out hb3); obtain ⟨c0, c1, c2, c3, c4⟩ := CX.out _ HB3.out; clear hb3))
     go_ret
     exact ⟨rfl, BW.out _ HB3.out⟩
    rw [decide_eq_true k5] at har
    have hbe := hbe0 k2
    have hde := hde0 op j HR.out hj
    have hbi := bef_in (N := N) (by have := HnD.out; have := HLT.out; omega) HR.out k2
    obtain ⟨dp, hdp⟩ : ∃ dp : Int, ((j + 1 : Nat) : Int) = dp := ⟨_, rfl⟩
    rw [hdp] at hde
    obtain ⟨b, hb⟩ : ∃ b, bef D x2 i = b := ⟨_, rfl⟩
    rw [hb] at hbe hbi hck
    clear hb hbe0 hde0 k4 k5 hj
    rcases hck with ⟨k6, k7, hr⟩ | ⟨k6, hck⟩
    ·have q7 : (x0 == 1) = true := by rw [k6]; rfl
     have q8 : ((64 : Int) < dp) = True := eq_true (by omega)
     subst hr
     clear k6 k7 hkind hdp
     go_wp2_with (first | (go_at_call 49; refine (hnd _ (BW.out _ (Below.refl _ _))).mono ?_; rintro e w2 ⟨rfl, hb2⟩; have HB2 := Lib.hid hb2; obtain ⟨c0, c1, c2, c3, c4⟩ := CX.out _ hb2; try (obtain ⟨y0, -, -, -⟩ := hpar _ (BW.out _ hb2)); clear hb2) | (go_at_call 50; refine (har _ (BW.out _ HB2.out)).mono ?_; rintro e w3 ⟨rfl, hb3⟩; have HB3 := Lib.hid (below_step HB2.out hb3); obtain ⟨c0, c1, c2, c3, c4⟩ := CX.out _ HB3.out; clear hb3) | (go_at_call 51; refine (hbe _ (BW.out _ HB3.out)).mono ?_; rintro e w4 ⟨rfl, hb4⟩; have HB4 := Lib.hid (below_step HB3.out hb4); obtain ⟨c0, c1, c2, c3, c4⟩ := CX.out _ HB4.out; try (obtain ⟨z0, -, -, -⟩ := hbc _ (BW.out _ HB4.out)); clear hb4) | (go_at_call 52; refine (hde _ (BW.out _ HB4.out)).mono ?_; rintro e w5 ⟨rfl, hb5⟩; have HB5 := Lib.hid (below_step HB4.out hb5); obtain ⟨c0, c1, c2, c3, c4⟩ := CX.out _ HB5.out; try (obtain ⟨z0, -, -, -⟩ := hbc _ (BW.out _ HB5.out)); clear hb5))
     go_ret
     exact ⟨rfl, BW.out _ HB5.out⟩
    have HBC := Lib.hid (fun (k : Nat) (hk : k < i) => HEL.out k (zz33))
    have hq : (x0 == 1) = true ∧ (x0 == 2) = false ∧ (x0 == 3) = false ∧ ((64 : Int) < dp) = False ∨ (x0 == 1) = false ∧ (x0 == 2) = true ∧ (x0 == 3) = false ∨ (x0 == 1) = false ∧ (x0 == 2) = false ∧ (x0 == 3) = true := by
     rcases hkind with rfl | rfl | rfl
     ·exact .inl ⟨rfl, rfl, rfl, eq_false (by omega)⟩
     ·exact .inr (.inl ⟨rfl, rfl, rfl⟩)
     ·exact .inr (.inr ⟨rfl, rfl, rfl⟩)
    rcases hck with ⟨hj, hr⟩ | ⟨hj, hdup, hnext⟩
    ·have hjc := jb_cases hj hkind (hbi.imp_right fun ⟨k, _, e⟩ => ⟨k, e⟩)
     have hbad : ∃ k : Nat, k < i ∧ b = (k : Int) ∧ ((x0 == 2) = true ∧ ((D.getD k nz).f0 != 2) = true ∨ (x0 == 2) = false ∧ (x0 == 3) = true ∧ ((D.getD k nz).f0 == 3) = true) := by
      rcases hjc with ⟨-, e⟩ | ⟨k, e, ⟨-, e2⟩ | ⟨e1, e2⟩ | ⟨e1, e2⟩⟩
      ·cases e
      ·cases e2
      ·exact ⟨k, by rcases hbi with h | ⟨k', h', h⟩ <;> omega, e, .inl ⟨by rw [e1]; rfl, e2.symm⟩⟩
      ·exact ⟨k, by rcases hbi with h | ⟨k', h', h⟩ <;> omega, e, .inr ⟨by rw [e1]; rfl, by rw [e1]; rfl, e2.symm⟩⟩
     obtain ⟨k, hk, rfl, hbad⟩ := hbad
     have hbc := HBC.out k hk
     have q9 : ((0 : Int) ≤ (k : Int)) = True := eq_true (by omega)
     have qa : ((k : Int) < (n : Int)) = True := eq_true (zz33)
     obtain ⟨⟨z0, z1, z2, z3⟩, hz⟩ : ∃ z, D.getD k nz = z := ⟨_, rfl⟩
     rw [hz] at hbc hbad
     dsimp only at hbc hbad
     subst hr
     clear hz hjc hj hkind hbi k6 hdp hk
     rcases hq with ⟨r1, r2, r3, r4⟩ | ⟨r1, r2, r3⟩ | ⟨r1, r2, r3⟩
     ·rcases hbad with ⟨h, -⟩ | ⟨-, h, -⟩
      ·rw [h] at r2; cases r2
      ·rw [h] at r3; cases r3
     ·rcases hbad with ⟨-, h⟩ | ⟨h, -, -⟩
      rotate_left
      ·rw [h] at r2; cases r2
      go_wp2_with (first | (go_at_call 49; refine (hnd _ (BW.out _ (Below.refl _ _))).mono ?_; rintro e w2 ⟨rfl, hb2⟩; have HB2 := Lib.hid hb2; obtain ⟨c0, c1, c2, c3, c4⟩ := CX.out _ hb2; try (obtain ⟨y0, -, -, -⟩ := hpar _ (BW.out _ hb2)); clear hb2) | (go_at_call 50; refine (har _ (BW.out _ HB2.out)).mono ?_; rintro e w3 ⟨rfl, hb3⟩; have HB3 := Lib.hid (below_step HB2.out hb3); obtain ⟨c0, c1, c2, c3, c4⟩ := CX.out _ HB3.out; clear hb3) | (go_at_call 51; refine (hbe _ (BW.out _ HB3.out)).mono ?_; rintro e w4 ⟨rfl, hb4⟩; have HB4 := Lib.hid (below_step HB3.out hb4); obtain ⟨c0, c1, c2, c3, c4⟩ := CX.out _ HB4.out; try (obtain ⟨z0, -, -, -⟩ := hbc _ (BW.out _ HB4.out)); clear hb4) | (go_at_call 52; refine (hde _ (BW.out _ HB4.out)).mono ?_; rintro e w5 ⟨rfl, hb5⟩; have HB5 := Lib.hid (below_step HB4.out hb5); obtain ⟨c0, c1, c2, c3, c4⟩ := CX.out _ HB5.out; try (obtain ⟨z0, -, -, -⟩ := hbc _ (BW.out _ HB5.out)); clear hb5))
      go_ret
      exact ⟨rfl, BW.out _ HB4.out⟩
     ·rcases hbad with ⟨h, -⟩ | ⟨-, -, h⟩
      ·rw [h] at r2; cases r2
      go_wp2_with (first | (go_at_call 49; refine (hnd _ (BW.out _ (Below.refl _ _))).mono ?_; rintro e w2 ⟨rfl, hb2⟩; have HB2 := Lib.hid hb2; obtain ⟨c0, c1, c2, c3, c4⟩ := CX.out _ hb2; try (obtain ⟨y0, -, -, -⟩ := hpar _ (BW.out _ hb2)); clear hb2) | (go_at_call 50; refine (har _ (BW.out _ HB2.out)).mono ?_; rintro e w3 ⟨rfl, hb3⟩; have HB3 := Lib.hid (below_step HB2.out hb3); obtain ⟨c0, c1, c2, c3, c4⟩ := CX.out _ HB3.out; clear hb3) | (go_at_call 51; refine (hbe _ (BW.out _ HB3.out)).mono ?_; rintro e w4 ⟨rfl, hb4⟩; have HB4 := Lib.hid (below_step HB3.out hb4); obtain ⟨c0, c1, c2, c3, c4⟩ := CX.out _ HB4.out; try (obtain ⟨z0, -, -, -⟩ := hbc _ (BW.out _ HB4.out)); clear hb4) | (go_at_call 52; refine (hde _ (BW.out _ HB4.out)).mono ?_; rintro e w5 ⟨rfl, hb5⟩; have HB5 := Lib.hid (below_step HB4.out hb5); obtain ⟨c0, c1, c2, c3, c4⟩ := CX.out _ HB5.out; try (obtain ⟨z0, -, -, -⟩ := hbc _ (BW.out _ HB5.out)); clear hb5))
      go_ret
      exact ⟨rfl, BW.out _ HB4.out⟩
    have hjc := jb_cases hj hkind (hbi.imp_right fun ⟨k, _, e⟩ => ⟨k, e⟩)
    have hgood : b = -1 ∨ ∃ k : Nat, k < i ∧ b = (k : Int) ∧ ((x0 == 2) = true → ((D.getD k nz).f0 != 2) = false) ∧ ((x0 == 3) = true → ((D.getD k nz).f0 == 3) = false) := by
     rcases hjc with ⟨e, -⟩ | ⟨k, e, ⟨e1, -⟩ | ⟨e1, e2⟩ | ⟨e1, e2⟩⟩
     ·exact .inl e
     ·exact .inr ⟨k, by rcases hbi with h | ⟨k', h', h⟩ <;> omega, e, fun h => (by rw [e1] at h; cases h), fun h => (by rw [e1] at h; cases h)⟩
     ·exact .inr ⟨k, by rcases hbi with h | ⟨k', h', h⟩ <;> omega, e, fun _ => e2.symm, fun h => (by rw [e1] at h; cases h)⟩
     ·exact .inr ⟨k, by rcases hbi with h | ⟨k', h', h⟩ <;> omega, e, fun h => (by rw [e1] at h; cases h), fun _ => e2.symm⟩
    obtain ⟨k0, hk0⟩ : ∃ k0 : Nat, (k0 : Int) = x2 + 1 := ⟨x2.toNat + 1, by omega⟩
    have e5 : IntKind.i64.wrap (x2 + 1) = (k0 : Int) := by have := HSZ.out; have := HLT.out; rw [IntKind.wrap_i64]; omega
    have HDUP := Lib.hid (show (x0 == 2) = true → (∃ k, k < i ∧ x2 < ((k : Nat) : Int) ∧ dup D (⟨x0, x1, x2, x3⟩ : Nod) k) → res = 1 from fun h => hdup (by simpa using h))
    have HNEXT := Lib.hid (show ((x0 == 2) = true → ∀ k : Nat, k < i → x2 < (k : Int) → ¬ dup D (⟨x0, x1, x2, x3⟩ : Nod) k) → Lp N D res (i + 1) from fun h => hnext fun ⟨h1, k, h2, h3, h4⟩ => h (by rw [h1]; rfl) k h2 h3 h4)
    have HK0 := Lib.hid (show (k0 : Int) = x2 + 1 ∧ x2 < (i : Int) from ⟨hk0, k3⟩)
    clear hjc hj hkind hbi k6 hdp hdup hnext hk0
    have hgo : b = -1 ∨ ∃ (k : Nat) (z : Nod), b = (k : Int) ∧ ((0 : Int) ≤ (k : Int)) = True ∧ ((k : Int) < (n : Int)) = True ∧ ((x0 == 2) = true → (z.f0 != 2) = false) ∧ ((x0 == 3) = true → (z.f0 == 3) = false) ∧ ∀ W, Below w.heap.size w W → W.cell? (ad.add (k * 4)) = some (.int .i64 z.f0) ∧ True ∧ True ∧ True := by
     rcases hgood with h | ⟨k, hk, h, h1, h2⟩
     ·exact .inl h
     ·exact .inr ⟨k, D.getD k nz, h, eq_true (by omega), eq_true (zz33), h1, h2, fun W hW => ⟨(HBC.out k hk W hW).1, trivial, trivial, trivial⟩⟩
    clear hgood
    rcases hgo with rfl | ⟨k, ⟨z0, z1, z2, z3⟩, rfl, q9, qa, hg1, hg2, hbc⟩
    all_goals
     try dsimp only at hg1 hg2 hbc
     rcases hq with ⟨r1, r2, r3, r4⟩ | ⟨r1, r2, r3⟩ | ⟨r1, r2, r3⟩
     all_goals
      try (replace hg1 := hg1 r2)
      try (replace hg2 := hg2 r3)
      go_wp2_with (first | (go_at_call 49; refine (hnd _ (BW.out _ (Below.refl _ _))).mono ?_; rintro e w2 ⟨rfl, hb2⟩; have HB2 := Lib.hid hb2; obtain ⟨c0, c1, c2, c3, c4⟩ := CX.out _ hb2; try (obtain ⟨y0, -, -, -⟩ := hpar _ (BW.out _ hb2)); clear hb2) | (go_at_call 50; refine (har _ (BW.out _ HB2.out)).mono ?_; rintro e w3 ⟨rfl, hb3⟩; have HB3 := Lib.hid (below_step HB2.out hb3); obtain ⟨c0, c1, c2, c3, c4⟩ := CX.out _ HB3.out; clear hb3) | (go_at_call 51; refine (hbe _ (BW.out _ HB3.out)).mono ?_; rintro e w4 ⟨rfl, hb4⟩; have HB4 := Lib.hid (below_step HB3.out hb4); obtain ⟨c0, c1, c2, c3, c4⟩ := CX.out _ HB4.out; try (obtain ⟨z0, -, -, -⟩ := hbc _ (BW.out _ HB4.out)); clear hb4) | (go_at_call 52; refine (hde _ (BW.out _ HB4.out)).mono ?_; rintro e w5 ⟨rfl, hb5⟩; have HB5 := Lib.hid (below_step HB4.out hb5); obtain ⟨c0, c1, c2, c3, c4⟩ := CX.out _ HB5.out; try (obtain ⟨z0, -, -, -⟩ := hbc _ (BW.out _ HB5.out)); clear hb5))
      first | have HBI := HB5 | have HBI := HB4
      clear hnd har hbe hde HBC
      go_loopw [7] (fun v7 wq => ∃ k : Nat, x2 < (k : Int) ∧ k ≤ i ∧ v7 = .int .i64 k ∧ Hid ((x0 == 2) = true → ∀ q : Nat, q < k → x2 < (q : Int) → ¬ dup D (⟨x0, x1, x2, x3⟩ : Nod) q) ∧ Hid (Below (wr.alloc (.cells #[.int .i64 x0, .int .i64 x1, .int .i64 x2, .string x3] 41)).heap.size (wr.alloc (.cells #[.int .i64 x0, .int .i64 x1, .int .i64 x2, .string x3] 41)) wq)) (fun v7 wq => i - (intOf v7).toNat)
      case atStart => exact ⟨k0, by have := HK0.out; omega, by have := HK0.out; omega, rfl, Lib.hid (fun _ q h1 h2 => by have := HK0.out; omega), HBI⟩
      case round =>
       as_aux_lemma =>
        clear HBI
        obtain ⟨k, hk1, hk2, rfl, HQ, HBI⟩ := hrel
        obtain ⟨c0, c1, c2, c3, c4⟩ := CX.out _ HBI.out
        have e6 : IntKind.i64.wrap ((k : Int) + 1) = ((k + 1 : Nat) : Int) := by have := HSZ.out; have := HLT.out; rw [IntKind.wrap_i64]; omega
        by_cases hki : k < i
        ·obtain ⟨z0, z1, z2, -⟩ := HEL.out k (zz33) _ (BW.out _ HBI.out)
         obtain ⟨⟨v0, v1, v2, v3⟩, hy⟩ : ∃ y, D.getD k nz = y := ⟨_, rfl⟩
         have hdd : dup D (⟨x0, x1, x2, x3⟩ : Nod) k ↔ v0 = 2 ∧ v2 = x2 ∧ v1 = x1 := by unfold dup; rw [hy]
         rw [hy] at z0 z1 z2
         dsimp only at z0 z1 z2
         have s1 : ((0 : Int) ≤ (k : Int)) = True := eq_true (by omega)
         have s2 : ((k : Int) < (n : Int)) = True := eq_true (zz33)
         have s3 : ((k : Int) < (i : Int)) = True := eq_true (by omega)
         have HKI := Lib.hid (show x2 < (k : Int) ∧ k < i from ⟨hk1, hki⟩)
         have hcs : (x0 == 2) = false ∨ (x0 == 2) = true ∧ (dup D (⟨x0, x1, x2, x3⟩ : Nod) k ∧ (v0 == 2) = true ∧ (v2 == x2) = true ∧ (v1 == x1) = true ∨ ¬ dup D (⟨x0, x1, x2, x3⟩ : Nod) k ∧ ((v0 == 2) = false ∨ (v0 == 2) = true ∧ ((v2 == x2) = false ∨ (v2 == x2) = true ∧ (v1 == x1) = false))) := by
          cases (x0 == 2)
          ·exact .inl rfl
          ·refine .inr ⟨rfl, ?_⟩
           rw [hdd]
           by_cases d1 : v0 = 2
           ·by_cases d2 : v2 = x2
            ·by_cases d3 : v1 = x1
             ·exact .inl ⟨⟨d1, d2, d3⟩, by simpa using d1, by simpa using d2, by simpa using d3⟩
             ·exact .inr ⟨fun h => d3 h.2.2, .inr ⟨by simpa using d1, .inr ⟨by simpa using d2, by simpa using d3⟩⟩⟩
            ·exact .inr ⟨fun h => d2 h.2.1, .inr ⟨by simpa using d1, .inl (by simpa using d2)⟩⟩
           ·exact .inr ⟨fun h => d1 h.1, .inl (by simpa using d1)⟩
         clear hy hdd hk1 hk2 hki
         have HNQ := Lib.hid (show ((x0 == 2) = true → ¬ dup D (⟨x0, x1, x2, x3⟩ : Nod) k) → (x0 == 2) = true → ∀ q : Nat, q < k + 1 → x2 < (q : Int) → ¬ dup D (⟨x0, x1, x2, x3⟩ : Nod) q from fun h h1 q h2 h3 => by
          by_cases e : q = k
          ·rw [e]; exact h h1
          ·exact HQ.out h1 q (by omega) h3)
         rcases hcs with g1 | ⟨g1, ⟨hdy, g2, g3, g4⟩ | ⟨hdn, g2 | ⟨g2, g3 | ⟨g3, g4⟩⟩⟩⟩
         all_goals first
         | (exfalso; rw [r2] at g1; exact absurd g1 (by decide))
         | (have hres : res = 1 := HDUP.out g1 ⟨k, HKI.out.2, HKI.out.1, hdy⟩
            subst hres
            clear hdy
            go_wp2
            go_quiet (fail)
            go_wp2
            go_ret
            exact ⟨rfl, by repeat (with_reducible first | exact BW.out _ HBI.out | apply pw_below_drewN | apply below_drew)⟩)
         | (first
            | have HN2 := Lib.hid (HNQ.out fun _ => hdn)
            | have HN2 := Lib.hid (HNQ.out fun h => by rw [g1] at h; cases h)
            try clear hdn
            go_wp2
            go_quiet (fail)
            go_wp2
            obtain ⟨u1, u2⟩ := HKI.out
            go_roundw
            case rel => exact ⟨k + 1, by omega, by omega, by first | rfl | go_num, HN2, Lib.hid (by repeat (with_reducible first | exact HBI.out | apply pw_below_drewN | apply below_drew))⟩
            case measure => simp [intOf]; omega)
        obtain rfl : k = i := by omega
        have s3 : ((k : Int) < (k : Int)) = False := eq_false (by omega)
        have HL2 := Lib.hid (HNEXT.out fun h q h1 h2 => HQ.out h q h1 h2)
        go_wp2
        have := HLT.out
        go_roundw
        case rel => exact ⟨k + 1, by omega, by first | rfl | go_num, HL2, Lib.hid (BA.out _ HBI.out)⟩
        case measure => simp [intOf]; omega
   have hin : i = n := by omega
   subst hin
   have hres := check_names HL.out HSZ.out.1 (by have := HnD.out; omega)
   have p2 : ((i : Int) < (i : Int)) = False := eq_false (by omega)
   have HRS := Lib.hid (show (if (List.range' 0 (nn - 0)).all (okName N D) = true then (0 : Int) else 1) = res by rw [Nat.sub_zero, ← HnN.out]; exact hres)
   clear hlt hres HL HND HAR HBE HDE
   go_wp2
   clear p2 d0 d1
   go_loopw [8] (fun v8 wr => ∃ a : Nat, a ≤ nn ∧ v8 = .int .i64 a ∧ Hid ((if (List.range' a (nn - a)).all (okName N D) = true then (0 : Int) else 1) = res) ∧ Hid (Below wA.heap.size wA wr)) (fun v8 wr => nn - (intOf v8).toNat)
   case atStart => exact ⟨0, by omega, rfl, HRS, HB⟩
   case round =>
    as_aux_lemma =>
     clear HRS HB
     obtain ⟨a, ha, rfl, HRS, HB⟩ := hrel
     obtain ⟨d0, d1⟩ := HC1.out _ HB.out
     by_cases hlt : a < nn
     ·obtain ⟨an, rfl, hSa⟩ := HNM.out a hlt
      have hSp := HNM.out (a - 1) (by omega)
      obtain ⟨an', e', hSp⟩ := hSp
      obtain rfl := Option.some.inj e'
      obtain ⟨S, hS⟩ : ∃ S, N.getD a ⟨#[]⟩ = S := ⟨_, rfl⟩
      obtain ⟨S', hS'⟩ : ∃ S, N.getD (a - 1) ⟨#[]⟩ = S := ⟨_, rfl⟩
      rw [hS] at hSa
      rw [hS'] at hSp
      have hSs : S.size ≤ 1000000000 := by
       rw [← hS]
       refine HSN.out _ ?_
       have := HnN.out
       rw [List.getD_eq_getElem?_getD, List.getElem?_eq_getElem (by omega)]; exact List.getElem_mem _
      obtain ⟨E, hE⟩ : ∃ E, nameEndP S.data.toList 0 = E := ⟨_, rfl⟩
      have hne := fun W => R1_NameEnd.calls _ S 0 E W (hE ▸ ref_name_f S 0 (by omega) 0)
      have hok : okName N D a = ((D.any fun x => decide (x.f1 = (a : Int))) && ((decide (0 < S.size) && (E == (S.size : Int))) && (decide (a = 0) || decide (S'.data.toList < S.data.toList)))) := by
       unfold okName
       rw [hS, hS', hE]
       congr 3
       rw [Lib.size_eq]
       cases S.data.toList <;> simp
      have hrs := HRS.out
      rw [show nn - a = (nn - (a + 1)) + 1 from by omega, List.range'_succ, List.all_cons, hok] at hrs
      have HRN := Lib.hid hrs
      have HLT := Lib.hid hlt
      have HSA := Lib.hid hSa
      have HSP := Lib.hid hSp
      have HNE := Lib.hid hne
      have e9 : IntKind.i64.wrap ((a : Int) + 1) = ((a + 1 : Nat) : Int) := by have := HSZ.out; rw [IntKind.wrap_i64]; omega
      have p1 : ((0 : Int) ≤ (a : Int)) = True := eq_true (by omega)
      have p2 : ((a : Int) < (nn : Int)) = True := eq_true (by omega)
      clear hrs hok hE hS hS' hSs hne hSa hSp hlt HRS
      go_wp2
      clear d0 d1
      go_loopw [9, 10] (fun v9 v10 wq => ∃ m : Nat, m ≤ i ∧ v10 = .int .i64 m ∧ v9 = .bool ((D.take m).any fun x => decide (x.f1 = (a : Int))) ∧ Hid (Below wA.heap.size wA wq)) (fun v9 v10 wq => i - (intOf v10).toNat)
      case atStart => exact ⟨0, by omega, rfl, by simp, HB⟩
      case round =>
       as_aux_lemma =>
        clear HB
        obtain ⟨m, hm, rfl, rfl, HB⟩ := hrel
        obtain ⟨d0, d1⟩ := HC1.out _ HB.out
        obtain ⟨u, hu⟩ : ∃ u, ((D.take m).any fun x => decide (x.f1 = (a : Int))) = u := ⟨_, rfl⟩
        rw [hu]
        have e8 : IntKind.i64.wrap ((m : Int) + 1) = ((m + 1 : Nat) : Int) := by have := HSZ.out; rw [IntKind.wrap_i64]; omega
        by_cases hmi : m < i
        ·obtain ⟨-, z1, -, -⟩ := HEL.out m hmi _ (HW1.out _ HB.out)
         obtain ⟨v1, hv⟩ : ∃ v1, (D.getD m nz).f1 = v1 := ⟨_, rfl⟩
         have hnx : ((D.take (m + 1)).any fun x => decide (x.f1 = (a : Int))) = (u || decide (v1 = (a : Int))) := by
          rw [take_one (by have := HnD.out; omega), List.any_append, hu, ← hv]; simp
         rw [hv] at z1
         have s1 : ((0 : Int) ≤ (m : Int)) = True := eq_true (by omega)
         have s2 : ((m : Int) < (i : Int)) = True := eq_true (by omega)
         have HNX := Lib.hid hnx
         have HMI := Lib.hid hmi
         have hc : u = true ∨ u = false ∧ ((v1 == (a : Int)) = true ∨ (v1 == (a : Int)) = false) := by
          cases u
          ·right; refine ⟨rfl, ?_⟩; cases (v1 == (a : Int)) <;> simp
          ·exact .inl rfl
         clear hnx hv hu hmi
         rcases hc with rfl | ⟨rfl, g | g⟩
         all_goals
          go_wp2
          have := HMI.out
          go_roundw
          case rel => exact ⟨m + 1, by omega, by first | rfl | go_num, by rw [HNX.out]; first | rfl | (rw [show decide (v1 = (a : Int)) = (v1 == (a : Int)) from by rw [Bool.eq_iff_iff]; simp, g]; rfl), HB⟩
          case measure => simp [intOf]; omega
        obtain rfl : m = i := by omega
        have hu' : (D.any fun x => decide (x.f1 = (a : Int))) = u := by rw [← hu, List.take_of_length_le (by have := HnD.out; omega)]
        have hrn := HRN.out
        rw [hu'] at hrn
        have s3 : ((m : Int) < (m : Int)) = False := eq_false (by omega)
        have hsa := HSA.out _ (HW1.out _ HB.out)
        have hsp := HSP.out _ (HW1.out _ HB.out)
        clear hu hu' hmi HRN
        have hz : (((0 : Int) < (S.size : Int)) = False ∧ decide (0 < S.size) = false) ∨ (((0 : Int) < (S.size : Int)) = True ∧ decide (0 < S.size) = true) := by
         by_cases c : 0 < S.size
         ·exact .inr ⟨eq_true (by omega), by simpa using c⟩
         ·exact .inl ⟨eq_false (by omega), by simpa using c⟩
        obtain ⟨B, hB⟩ : ∃ B, (List.range' (a + 1) (nn - (a + 1))).all (okName N D) = B := ⟨_, rfl⟩
        obtain ⟨b, hb⟩ : ∃ b, a - 1 = b := ⟨_, rfl⟩
        rw [hB] at hrn
        rw [hb] at hsp
        have hfin : (u = false ∧ res = 1 ∨ u = true ∧ (((0 : Int) < (S.size : Int)) = False ∨ ((0 : Int) < (S.size : Int)) = True ∧ (E == (S.size : Int)) = false) ∧ res = 1) ∨ u = true ∧ ((0 : Int) < (S.size : Int)) = True ∧ (E == (S.size : Int)) = true ∧ (((0 : Int) < (a : Int)) = False ∧ (if B = true then (0 : Int) else 1) = res ∨
         ((0 : Int) < (a : Int)) = True ∧ IntKind.i64.wrap ((a : Int) - 1) = (b : Int) ∧ ((0 : Int) ≤ (b : Int)) = True ∧ ((b : Int) < (nn : Int)) = True ∧ (Op.bytesLess S'.toList S.toList = false ∧ res = 1 ∨ Op.bytesLess S'.toList S.toList = true ∧ (if B = true then (0 : Int) else 1) = res)) := by
         cases u
         ·exact .inl (.inl ⟨rfl, by rw [← hrn]; rfl⟩)
         by_cases cz : 0 < S.size
         case neg => exact .inl (.inr ⟨rfl, .inl (eq_false (by omega)), by rw [← hrn, decide_eq_false cz]; rfl⟩)
         cases ce : (E == (S.size : Int))
         ·exact .inl (.inr ⟨rfl, .inr ⟨eq_true (by omega), rfl⟩, by rw [← hrn, ce]; simp⟩)
         refine .inr ⟨rfl, eq_true (by omega), rfl, ?_⟩
         rw [decide_eq_true cz, ce] at hrn
         by_cases c0 : a = 0
         ·refine .inl ⟨eq_false (by omega), ?_⟩
          rw [decide_eq_true c0] at hrn
          rw [← hrn]; simp
         ·rw [decide_eq_false c0] at hrn
          refine .inr ⟨eq_true (by omega), by have := HSZ.out; have := HLT.out; rw [IntKind.wrap_i64]; omega, eq_true (by omega), eq_true (zz33), ?_⟩
          rw [Lib.toList_data, Lib.toList_data, Go.Proofs.bytesLess_eq]
          by_cases cl : S'.data.toList < S.data.toList
          ·rw [decide_eq_true cl] at hrn ⊢
           refine .inr ⟨rfl, ?_⟩
           rw [← hrn]; simp
          ·rw [decide_eq_false cl] at hrn ⊢
           refine .inl ⟨rfl, ?_⟩
           rw [← hrn]; simp
        have hz3 : ((0 : Int) < (S.size : Int)) = False ∨ ((0 : Int) < (S.size : Int)) = True := hz.elim (fun h => .inl h.1) (fun h => .inr h.1)
        have HB2 := Lib.hid hB
        clear hz hrn hb hB
        rcases hfin with h1 | ⟨rfl, g1, g2, hfin⟩
        ·have hq : (u = false ∧ (((0 : Int) < (S.size : Int)) = False ∨ ((0 : Int) < (S.size : Int)) = True ∧ ((E == (S.size : Int)) = false ∨ (E == (S.size : Int)) = true)) ∨ u = true ∧ (((0 : Int) < (S.size : Int)) = False ∨ ((0 : Int) < (S.size : Int)) = True ∧ (E == (S.size : Int)) = false)) ∧ res = 1 := by
          rcases h1 with ⟨h, hr⟩ | ⟨h, h2, hr⟩
          ·refine ⟨.inl ⟨h, ?_⟩, hr⟩
           rcases hz3 with h3 | h3
           ·exact .inl h3
           ·exact .inr ⟨h3, by cases (E == (S.size : Int)) <;> simp⟩
          ·exact ⟨.inr ⟨h, h2⟩, hr⟩
         obtain ⟨hq, rfl⟩ := hq
         clear h1 hz3
         rcases hq with ⟨rfl, h1 | ⟨h1, h2 | h2⟩⟩ | ⟨rfl, h1 | ⟨h1, h2⟩⟩
         all_goals
          first | have z2 : (0 < S.size) = True := eq_true (by have := of_eq_true h1; omega) | have z2 : (0 < S.size) = False := eq_false (by have := of_eq_false h1; omega)
          go_wp2
          go_quiet ((go_at_call 53; (refine (HNE.out _).mono ?_); rintro e w' ⟨rfl, ⟨nd, rfl⟩⟩; (first | exact ⟨rfl, _, World.drewN_drewN _ _ _⟩ | exact ⟨rfl, _, rfl⟩ | exact ⟨rfl, _, Eq.trans (World.drewN_drewN _ _ _) (congrArg (World.drewN _) (Nat.add_assoc _ _ _))⟩)))
          go_wp2
          go_quiet (fail)
          go_wp2
          go_ret
          exact ⟨rfl, by repeat (with_reducible first | exact HW1.out _ HB.out | apply pw_below_drewN | apply below_drew)⟩
        clear hz3
        have z2 : (0 < S.size) = True := eq_true (by have := of_eq_true g1; omega)
        rcases hfin with ⟨g3, hnx⟩ | ⟨g3, g4, g5, g6, ⟨g7, rfl⟩ | ⟨g7, hnx⟩⟩
        rotate_left
        ·have g8 : (0 < a) = True := eq_true (by have := of_eq_true g3; omega)
         go_wp2
         go_quiet ((go_at_call 53; (refine (HNE.out _).mono ?_); rintro e w' ⟨rfl, ⟨nd, rfl⟩⟩; (first | exact ⟨rfl, _, World.drewN_drewN _ _ _⟩ | exact ⟨rfl, _, rfl⟩ | exact ⟨rfl, _, Eq.trans (World.drewN_drewN _ _ _) (congrArg (World.drewN _) (Nat.add_assoc _ _ _))⟩)))
         go_wp2
         go_quiet (fail)
         go_wp2
         go_ret
         exact ⟨rfl, by repeat (with_reducible first | exact HW1.out _ HB.out | apply pw_below_drewN | apply below_drew)⟩
        all_goals
         have HNX := Lib.hid (HB2.out ▸ hnx)
         clear hnx
         first | have g8 : (0 < a) = True := eq_true (by have := of_eq_true g3; omega) | have g8 : (0 < a) = False := eq_false (by have := of_eq_false g3; omega)
         go_wp2
         go_quiet ((go_at_call 53; (refine (HNE.out _).mono ?_); rintro e w' ⟨rfl, ⟨nd, rfl⟩⟩; (first | exact ⟨rfl, _, World.drewN_drewN _ _ _⟩ | exact ⟨rfl, _, rfl⟩ | exact ⟨rfl, _, Eq.trans (World.drewN_drewN _ _ _) (congrArg (World.drewN _) (Nat.add_assoc _ _ _))⟩)))
         go_wp2
         go_quiet (fail)
         go_wp2
         have := HLT.out
         go_roundw
         case rel => exact ⟨a + 1, by omega, by first | rfl | go_num, HNX, Lib.hid (by repeat (with_reducible first | exact HB.out | apply pw_below_drewN | apply below_drew))⟩
         case measure => simp [intOf]; omega
     ·have haq : a = nn := by omega
      have hrs := HRS.out
      rw [haq, Nat.sub_self] at hrs
      have hr : (0 : Int) = res := hrs
      have p2 : ((a : Int) < (nn : Int)) = False := eq_false (by omega)
      subst hr
      clear hrs hlt HRS haq
      go_wp2
      go_ret
      exact ⟨rfl, HW1.out _ HB.out⟩
theorem refcheck_c {cN cD : Nat} {AN AD : Option Addr} (hN : Kd.C Kd.string w AN N.length N) (hcN : N.length ≤ cN) (hD : Kd.C k41 w AD D.length D) (hcD : D.length ≤ cD) (hs : ∀ x, x ∈ N → x.size ≤ 1000000000) (hx : ∀ x, x ∈ D → x.f3.size ≤ 1000000000) :
 Calls Tryz.prog 20 #[.agg #[.slice AN N.length cN, .slice AD D.length cD]] w fun e w' => e = .returned (.int .i64 (checkV N D)) ∧ Below w.heap.size w w' := refcheck_h rfl rfl hN hcN hD hcD hs hx
end
end Go.Proofs.YtlhhhlimjajnlaaGreat.X
end
