/- Parts of the proof of canonSpoilt_holds, kept and merged by a program of mine (wip/tools/slim.py) out of my texts: RPa -/
import Derived.Deep.RegionHeld3
import Derived.Test.YtlhhhlimjajnlaaGreatSSp36
import Derived.Test.YtlhhhlimjajnlaaGreatSSp37
section
set_option linter.unusedVariables false
set_option linter.unusedSimpArgs false
namespace Go.Proofs.YtlhhhlimjajnlaaGreat.X
open Go.RowKit Go.Proofs.YtlhhhlimjajnlaaGreat Go.Proofs.YtlhhhlimjajnlaaGreat.Q Go.Proofs.YtlhhhlimjajnlaaGreat.P11 Go.Proofs.YtlhhhlimjajnlaaGreat.P12 Go.Proofs.YtlhhhlimjajnlaaGreat.P13 Go.Proofs.YtlhhhlimjajnlaaGreat.R13 Go.Proofs.YtlhhhlimjajnlaaGreat.Ck Go.Proofs.YtlhhhlimjajnlaaGreatW.PrintWords Go.Proofs.YtlhhhlimjajnlaaGreatW.PrintLast Go.Proofs.YtlhhhlimjajnlaaGreatW.PrintMore
attribute [local go_sem] max2_int min2_int max_two min_two   
theorem texts_c {l : List Tok} {nl cl : Nat} {AL : Option Addr} (hnl : l.length = nl) (hl : nl ≤ 2900) (hcl : nl ≤ cl) (hts : tsize l ≤ 60000) (i : Nat) (hi : i ≤ nl) {s : ByteArray} {c : Nat} (h : textsL (l.drop i) nob = (s, c)) (W : World) (hC : Kd.C k51 W AL nl l) :
 Calls Tryz.prog 33 #[.slice AL nl cl, .int .i64 i] W fun e w' => e = .returned (.tuple #[.string s, .int .i64 ((i + c : Nat) : Int)]) ∧ Drawn0 W w' := by
 obtain ⟨K, hK⟩ := texts_f l (by omega) i (by omega) (Nat.le_trans (tsize_dr l i) (by omega))
 have hK := hK K (Nat.le_refl _)
 simp only [h] at hK
 subst hnl
 exact R3_texts.calls K AL cl l i s ((i + c : Nat) : Int) W hC hcl hK
theorem spaces_c (s : ByteArray) (hs : s.size ≤ 60000) (W : World) : Calls Tryz.prog 34 #[.string s] W fun e w' => e = .returned (.bool (spacesB s)) ∧ Drawn0 W w' := by
 obtain ⟨K, hK⟩ := spaces_f s (by omega)
 exact R3_spaces.calls K s _ W (hK K (Nat.le_refl _))
def PP (d : ByteArray) (w : World) (e : Ending) (w' : World) : Prop := ∃ v0 v1 : Value, e = .returned (.tuple #[.agg #[v0, v1], .int .i64 (parseV d).2]) ∧ Kd.R Kd.string 9 w' w.heap.size (fun _ => True) v0 (parseV d).1.1 ∧ Kd.R k41 41 w' w.heap.size (fun _ => True) v1 (parseV d).1.2 ∧ Below w.heap.size w w'
theorem PP.bad {d : ByteArray} {w w' : World} {n : Int} (h : parseV d = (([], []), n)) (hb : Below w.heap.size w w') : PP d w (.returned (.tuple #[.agg #[.slice none 0 0, .slice none 0 0], .int .i64 n])) w' := by
 unfold PP
 rw [h]
 exact ⟨_, _, rfl, Kd.R_nil _ _ _ _ _, Kd.R_nil _ _ _ _ _, hb⟩
theorem PP.bad15 {d : ByteArray} {w w' : World} (h : parseV d = (([], []), 15)) (hb : Below w.heap.size w w') : PP d w (.returned (.tuple #[.agg #[.slice none 0 0, .slice none 0 0], .int .i64 15])) w' := PP.bad h hb
set_option maxHeartbeats 8000000 in
set_option maxRecDepth 100000 in
theorem refparse_c (d : ByteArray) (hl : (lexV d).1.length ≤ 2900) (hts : tsize (lexV d).1 ≤ 60000) (w : World) : Calls Tryz.prog 13 #[.string d] w (PP d w) := by
 have hlex : ∀ W, Calls Tryz.prog 32 #[.string d] W fun e w' => ∃ v : Value, e = .returned (.tuple #[v, .int .i64 (lexV d).2]) ∧ Kd.R k51 51 w' W.heap.size (fun _ => True) v (lexV d).1 ∧ Below W.heap.size W w' := fun W => lexref_c d W
 by_cases he : (lexV d).2 = 0
 rotate_left
 ·have hpv : parseV d = (([], []), (lexV d).2) := by unfold parseV; rw [if_neg he]
  obtain ⟨le, hle⟩ : ∃ le, (lexV d).2 = le := ⟨_, rfl⟩
  rw [hle] at hlex hpv he
  have q1 : (le != 0) = true := by simpa using he
  have HLEX := Lib.hid hlex
  have HPV := Lib.hid hpv
  clear hlex hpv hle he
  go_enter Tryz.func13, Tryz.ntmps13
  go_wp2_with (go_at_call 32; refine (HLEX.out _).mono ?_; rintro e w1 ⟨v0, rfl, hr, hb⟩; have hbk := blk_below (blk_new w (.cells #[.slice none 0 0, .slice none 0 0] 27)) hb; have y0 := (blk_cell hbk 0).trans (show _ = some (Value.slice none 0 0) from rfl); have y1 := (blk_cell hbk 1).trans (show _ = some (Value.slice none 0 0) from rfl); have y2 := blk_frozen hbk 0; have y3 := blk_frozen hbk 1; have HBK := Lib.hid hbk; have HB1 := Lib.hid (below_step (below_alloc (Below.refl w.heap.size w) _) hb); clear hr hb hbk)
  refine bodyPost_ret (results_ct rfl _ _ w.heap.size 27 #[.slice none 0 0, .slice none 0 0] (0, 0) _ rfl (blk_set (blk_set HBK.out 0 (.slice none 0 0)) 1 (.slice none 0 0)) Tryz.underlying27 rfl (by kernel_rfl)) rfl ?_
  exact PP.bad HPV.out ((HB1.out.setCell (Nat.le_refl _) _).setCell (Nat.le_refl _) _)
 obtain ⟨s1, c1, hsc, hc1, hs1, hcase⟩ := parse_steps d hl hts he
 rw [he] at hlex
 obtain ⟨l, hll⟩ : ∃ l, (lexV d).1 = l := ⟨_, rfl⟩
 rw [hll] at hl hts hlex hsc hc1 hcase
 obtain ⟨nl, hnl⟩ : ∃ nl, l.length = nl := ⟨_, rfl⟩
 have ht1 := fun A cl (hcl : nl ≤ cl) W (hC : Kd.C k51 W A nl l) => texts_c (AL := A) hnl (by omega) hcl hts 0 (Nat.zero_le _) (s := s1) (c := c1) (by rw [List.drop_zero]; exact hsc) W hC
 simp only [Nat.zero_add] at ht1
 have HT1 := Lib.hid ht1
 have HS1 := Lib.hid (spaces_c s1 hs1)
 have HLEX := Lib.hid hlex
 have HNL := Lib.hid hnl
 have HL := Lib.hid (show nl ≤ 2900 by omega)
 have HTS := Lib.hid hts
 have HC1 := Lib.hid (show c1 ≤ nl by omega)
 obtain ⟨b1, hb1⟩ : ∃ b1, spacesB s1 = b1 := ⟨_, rfl⟩
 rw [hb1] at HS1 hcase
 have HCASE := Lib.hid hcase
 clear hcase ht1 hlex hnl hl hts hc1 hs1 hsc hll he hb1
 have hlx : True := trivial
 go_enter Tryz.func13, Tryz.ntmps13
 go_upto_region 6 with (first | (go_at_call 32; refine (HLEX.out _).mono ?_; rintro e w1 ⟨v0, rfl, hr, hb⟩; obtain ⟨A4, c4, e4⟩ := Kd.R_slice hr; rw [HNL.out] at e4; subst e4; have hrr := Kd.R_reads' hr; rw [HNL.out] at hrr; have HCL := Lib.hid hrr.2.1; have HLC := Lib.hid hrr.2.2; have hbk := blk_below (blk_new w (.cells #[.slice none 0 0, .slice none 0 0] 27)) hb; have HBK := Lib.hid hbk; have HB1 := Lib.hid (below_step (below_alloc (Below.refl w.heap.size w) _) hb); clear hr hb hbk hrr) | (go_at_call 33; refine (HT1.out A4 c4 HCL.out w1 HLC.out).mono ?_; rintro e w2 ⟨rfl, n2, rfl⟩) | (go_at_call 34; refine (HS1.out _).mono ?_; rintro e w3 ⟨rfl, n3, rfl⟩))
 have HW3 := Lib.hid (pw_below_drewN (Below.refl w1.heap.size w1) (n2 + n3))
 have HBK3 := Lib.hid (blk_drewN HBK.out (n2 + n3))
 have HB3 := Lib.hid (pw_below_drewN HB1.out (n2 + n3))
 generalize w1.drewN (n2 + n3) = w3 at HW3 HBK3 HB3 ⊢
 rcases HCASE.out with ⟨hno, hpv⟩ | ⟨t, r, hr, k1, hal, hmore⟩
 ·have HPV := Lib.hid hpv
  have HNO : Hid (nl ≤ c1 ∨ ∃ t r, l.drop c1 = t :: r ∧ ¬ t.f0 = 1) := Lib.hid (by rw [← HNL.out]; exact hno)
  clear hno hpv HCASE
  cases b1
  all_goals
   go_wp2_with (go_at_call 35; refine (elem_no HNL.out HLC.out c1 HC1.out HL.out HNO.out HW3.out).mono ?_; rintro e w4 ⟨rfl, hb⟩; have hbk := blk_below HBK3.out hb; have y0 := (blk_cell hbk 0).trans (show _ = some (Value.slice none 0 0) from rfl); have y1 := (blk_cell hbk 1).trans (show _ = some (Value.slice none 0 0) from rfl); have y2 := blk_frozen hbk 0; have y3 := blk_frozen hbk 1; have HBK4 := Lib.hid hbk; have HB4 := Lib.hid (below_step HB3.out hb); clear hb hbk)
   refine bodyPost_ret (results_ct rfl _ _ w.heap.size 27 #[.slice none 0 0, .slice none 0 0] (0, 0) _ rfl (blk_set (blk_set HBK4.out 0 (.slice none 0 0)) 1 (.slice none 0 0)) Tryz.underlying27 rfl (by kernel_rfl)) rfl ?_
   exact PP.bad15 HPV.out ((HB4.out.setCell (Nat.le_refl _) _).setCell (Nat.le_refl _) _)
 have hel := (elw HNL.out HL.out HLC.out HCL.out (by have := HTS.out; omega) l.length) c1 psZero 0 t r w3 (.slice none 0 0) hr k1 hal (Nat.sub_le _ _) rfl rfl (fun _ => rfl) (fun z hz => by cases hz) rfl (Nat.zero_le _) (Nat.zero_le _) (Kd.R_nil _ _ _ _ _) HW3.out
 have HEL : Hid (Calls Tryz.prog 35 #[.slice A4 nl c4, .int .i64 c1, .int .i64 (-1), .slice none 0 0, .int .i64 0] w3 fun e w' => ∃ (res : List Nm × Int × Bool) (v' : Value), e = .returned (.tuple #[v', .int .i64 res.2.1, .bool res.2.2]) ∧ Kd.R k104 104 w' w1.heap.size (fun _ => True) v' res.1 ∧ Below w1.heap.size w1 w' ∧ Res l c1 psZero [] res ∧ (res.2.2 = true → (c1 : Int) < res.2.1 ∧ 0 < res.1.length)) := Lib.hid hel
 have HMORE := Lib.hid hmore
 clear hel hmore hr k1 hal HCASE
 go_upto_region 7 with (go_at_call 35; refine HEL.out.mono ?_; rintro e w4 ⟨⟨rn, ri, rb⟩, v4, rfl, hr4, hb4, hq4, hx4⟩; obtain ⟨A5, c5, rfl⟩ := Kd.R_slice hr4; have HR4 := Lib.hid hr4; have hbk := blk_below HBK.out hb4; have y0 := (blk_cell hbk 0).trans (show _ = some (Value.slice none 0 0) from rfl); have y1 := (blk_cell hbk 1).trans (show _ = some (Value.slice none 0 0) from rfl); have y2 := blk_frozen hbk 0; have y3 := blk_frozen hbk 1; have HBK4 := Lib.hid hbk; have HB4 := Lib.hid hb4; have HB5 := Lib.hid (below_step HB1.out hb4); have HM := Lib.hid (HMORE.out _ hq4 hx4); clear hr4 hb4 hq4 hx4 hbk)
 cases b1
 ·have HPV := Lib.hid (HM.out.1 (Or.inl rfl))
  go_wp2
  refine bodyPost_ret (results_ct rfl _ _ w.heap.size 27 #[.slice none 0 0, .slice none 0 0] (0, 0) _ rfl (blk_set (blk_set HBK4.out 0 (.slice none 0 0)) 1 (.slice none 0 0)) Tryz.underlying27 rfl (by kernel_rfl)) rfl ?_
  exact PP.bad15 HPV.out ((HB5.out.setCell (Nat.le_refl _) _).setCell (Nat.le_refl _) _)
 cases rb
 ·have HPV := Lib.hid (HM.out.1 (Or.inr rfl))
  go_wp2
  refine bodyPost_ret (results_ct rfl _ _ w.heap.size 27 #[.slice none 0 0, .slice none 0 0] (0, 0) _ rfl (blk_set (blk_set HBK4.out 0 (.slice none 0 0)) 1 (.slice none 0 0)) Tryz.underlying27 rfl (by kernel_rfl)) rfl ?_
  exact PP.bad15 HPV.out ((HB5.out.setCell (Nat.le_refl _) _).setCell (Nat.le_refl _) _)
 obtain ⟨j, q, s2, c2, hri, hj, hsc2, hjc, hs2, hbad, hgood⟩ := HM.out.2 rfl rfl
 obtain rfl : ri = (j : Int) := hri
 rw [HNL.out] at hj hjc hbad hgood
 have HT2 := Lib.hid (fun W (hC : Kd.C k51 W A4 nl l) => texts_c (AL := A4) HNL.out HL.out HCL.out HTS.out j hj hsc2 W hC)
 have HS2 := Lib.hid (spaces_c s2 hs2)
 obtain ⟨b2, hb2⟩ : ∃ b2, spacesB s2 = b2 := ⟨_, rfl⟩
 obtain ⟨kk, hkk⟩ : ∃ kk, j + c2 = kk := ⟨_, rfl⟩
 rw [hkk] at HT2 hjc hbad hgood
 rw [hb2] at HS2 hbad hgood
 have HBAD := Lib.hid hbad
 have HGOOD := Lib.hid hgood
 have HLC4 := Lib.hid (Kd.C_below HLC.out HB4.out)
 clear hbad hgood hb2 hkk hs2 hsc2 hj HM
 have two : (b2 = false ∨ ((b2 = true) ∧ kk < nl)) ∨ (b2 = true ∧ ¬ kk < nl) := by
  cases b2
  ·exact .inl (.inl rfl)
  ·by_cases h : kk < nl
   ·exact .inl (.inr ⟨rfl, h⟩)
   ·exact .inr ⟨rfl, h⟩
 have zz : ∀ n : Nat, (w4.drewN n).heap[w.heap.size]? = some (.cells #[.slice none 0 0, .slice none 0 0] 27 (0, 0)) := fun n => blk_drewN HBK4.out n
 have ZZ := Lib.hid zz
 clear zz
 rcases two with h2 | ⟨rfl, hge⟩
 ·have HPV := Lib.hid (HBAD.out (h2.elim Or.inl fun h => Or.inr h.2))
  have p1 : (b2 = false) ∨ (b2 = true ∧ ((kk : Int) < (nl : Int)) = True) := h2.elim Or.inl fun h => .inr ⟨h.1, eq_true (by omega)⟩
  clear h2
  rcases p1 with rfl | ⟨rfl, p1⟩
  all_goals
   go_wp2_with (first | (go_at_call 33; refine (HT2.out _ HLC4.out).mono ?_; rintro e w5 ⟨rfl, n5, rfl⟩) | (go_at_call 34; refine (HS2.out _).mono ?_; rintro e w6 ⟨rfl, n6, rfl⟩))
   refine bodyPost_ret (results_ct rfl _ _ w.heap.size 27 #[.slice none 0 0, .slice none 0 0] (0, 0) _ rfl (blk_set (blk_set (ZZ.out _) 0 (.slice none 0 0)) 1 (.slice none 0 0)) Tryz.underlying27 rfl (by kernel_rfl)) rfl ?_
   exact PP.bad15 HPV.out (((pw_below_drewN HB5.out _).setCell (Nat.le_refl _) _).setCell (Nat.le_refl _) _)
 obtain ⟨hzq, hD, hqn, hpv⟩ := HGOOD.out rfl hge
 have hzl := zipN_len hD.len
 try dsimp only at hzq hpv
 have hlow : ∀ i, i < rn.length → (rn.getD i zm).f0.f2 < i := by
  intro i hi
  rw [← hzq] at hi ⊢
  have hi' : i < q.n.length := by omega
  rw [show (zipN q).getD i zm = ⟨q.n.getD i Ck.nz, q.s.getD i nob⟩ from zipN_at hD.len i hi']
  exact (hD.low i (q.n.getD i Ck.nz) (by rw [List.getD_eq_getElem?_getD, List.getElem?_eq_getElem hi']; rfl)).2
 obtain ⟨nn, hnn⟩ : ∃ nn, rn.length = nn := ⟨_, rfl⟩
 have HRR := (Kd.R_reads' HR4.out).2.2
 rw [hnn] at hlow HRR HR4 ⊢
 have HRL := Lib.hid (fun n => limited_c (c := c5) hnn (Kd.C_below HRR (pw_below_drewN (Below.refl w4.heap.size w4) n)) hlow)
 have HPV := Lib.hid hpv
 have p1 : ((kk : Int) < (nl : Int)) = False := eq_false (by omega)
 clear hzq hD hqn hpv hzl hlow hnn HRR hge HGOOD HBAD y0 y1 y2 y3
 go_wp2_with (first | (go_at_call 33; refine (HT2.out _ HLC4.out).mono ?_; rintro e w5 ⟨rfl, n5, rfl⟩) | (go_at_call 34; refine (HS2.out _).mono ?_; rintro e w6 ⟨rfl, n6, rfl⟩) | (go_at_call 36; refine (HRL.out _).mono ?_; rintro e w7 ⟨v7, v8, rfl, hr7, hr8, hb7⟩; obtain ⟨A7, c7, e7⟩ := Kd.R_slice hr7; obtain ⟨A8, c8, e8⟩ := Kd.R_slice hr8; obtain ⟨l7, hl7⟩ : ∃ l7, (limT rn).1.length = l7 := ⟨_, rfl⟩; obtain ⟨l8, hl8⟩ : ∃ l8, (limT rn).2.1.length = l8 := ⟨_, rfl⟩; rw [hl7] at e7; rw [hl8] at e8; subst e7; subst e8; have hbk := blk_below (ZZ.out _) hb7; have y0 := (blk_cell hbk 0).trans (show _ = some (Value.slice none 0 0) from rfl); have y1 := (blk_cell hbk 1).trans (show _ = some (Value.slice none 0 0) from rfl); have y2 := blk_frozen hbk 0; have y3 := blk_frozen hbk 1; have hge : w.heap.size ≤ (w4.drewN (n5 + n6)).heap.size := HB5.out.size; have HR7 := Lib.hid (Kd.R_lower hr7 hge); have HR8 := Lib.hid (Kd.R_lower hr8 hge); have HBK7 := Lib.hid hbk; have HB7 := Lib.hid (below_step (pw_below_drewN HB5.out _) hb7); clear hl7 hl8 hr7 hr8 hb7 hbk hge))
 refine bodyPost_ret (results_ct rfl _ _ w.heap.size 27 #[.slice A7 l7 c7, .slice A8 l8 c8] (0, 0) _ rfl (blk_set (blk_set HBK7.out 0 (.slice A7 l7 c7)) 1 (.slice A8 l8 c8)) Tryz.underlying27 rfl (by kernel_rfl)) rfl ?_
 have h1 := Kd.R_set (Kd.R_set HR7.out HBK7.out (by decide) 0 (.slice A7 l7 c7)) (blk_set HBK7.out 0 (.slice A7 l7 c7)) (by decide) 1 (.slice A8 l8 c8)
 have h2 := Kd.R_set (Kd.R_set HR8.out HBK7.out (by decide) 0 (.slice A7 l7 c7)) (blk_set HBK7.out 0 (.slice A7 l7 c7)) (by decide) 1 (.slice A8 l8 c8)
 unfold PP
 rw [HPV.out]
 exact ⟨_, _, rfl, h1, h2, (HB7.out.setCell (Nat.le_refl _) _).setCell (Nat.le_refl _) _⟩
end Go.Proofs.YtlhhhlimjajnlaaGreat.X
end
