/- Parts of the proof of canonSpoilt_holds, kept and merged by a program of mine (wip/tools/slim.py) out of my texts: ParJ P13a -/
import Derived.Test.YtlhhhlimjajnlaaGreatSSp0
import Derived.WalkSpells
import Derived.Test.YtlhhhlimjajnlaaGreatSSp23
import Derived.Test.YtlhhhlimjajnlaaGreatSSp29
import Derived.Test.YtlhhhlimjajnlaaGreatSSp11
import Derived.Test.YtlhhhlimjajnlaaGreatSSp30
import Derived.Test.YtlhhhlimjajnlaaGreatSSp4
import Derived.Test.YtlhhhlimjajnlaaGreatSSp27
section
set_option linter.unusedVariables false
set_option linter.unusedSimpArgs false
namespace Go.Proofs.YtlhhhlimjajnlaaGreat.X
open Go.RowKit Go.Proofs.YtlhhhlimjajnlaaGreat Go.Proofs.YtlhhhlimjajnlaaGreat.Q Go.Proofs.YtlhhhlimjajnlaaGreat.P11 Go.Proofs.YtlhhhlimjajnlaaGreat.P12 Go.Proofs.YtlhhhlimjajnlaaGreatW.PrintWords Go.Proofs.YtlhhhlimjajnlaaGreatW.PrintLast Go.Proofs.YtlhhhlimjajnlaaGreatW.PrintMore
attribute [local go_sem] max2_int min2_int max_two min_two   
theorem lex_says (d : ByteArray) (hs : d.size ≤ 4294967280) (W : World) (hG : G W) : Calls Tryz.prog 25 #[.string d] W fun e w' => ∃ v0 : Value, e = .returned (.tuple #[v0, .int .i64 (lexV d).2]) ∧ Kd.R k51 51 w' W.heap.size (fun _ => True) v0 (lexV d).1 ∧ Below W.heap.size W w' :=
 lexer_Lex.calls d (lexV d).1 (lexV d).2 W hG (by unfold lexer_Lex.f; rw [if_pos hs])
set_option maxHeartbeats 8000000 in
set_option maxRecDepth 100000 in
theorem parse_bad (w : World) (hG : G w) (d : ByteArray) (hs : d.size ≤ 4294967280) (he : ¬ (lexV d).2 = 0) :
 Calls Tryz.prog 12 #[.string d] w fun e w' => e = .returned (.tuple #[.agg #[.slice none 0 0, .slice none 0 0], .int .i64 (lexV d).2]) ∧ Below w.heap.size w w' := by
 obtain ⟨E, hE⟩ : ∃ E, (lexV d).2 = E := ⟨_, rfl⟩
 have hL := Lib.hid (fun W (hG : G W) => lex_says d hs W hG)
 have HG := Lib.hid hG
 rw [hE] at he hL ⊢
 have b1 : (E == 0) = false := by rw [beq_eq_false_iff_ne]; exact he
 have b2 : (E != 0) = true := by rw [bne, b1]; rfl
 clear hE hG hs
 go_enter Tryz.func12, Tryz.ntmps12
 go_wp2
 go_step3
 go_wp2_with (go_at_call 25; go_must (refine (hL.out _ (G.below HG.out (zz2))).mono ?_); rintro e w1 ⟨v0, rfl, -, hb⟩; have hT : w1.heap[w.heap.size]? = some (.cells #[.slice none 0 0, .slice none 0 0] 27 (0, 0)) := blk_below (blk_new w _) hb; have ht0 : w1.cell? ⟨w.heap.size, 0, none⟩ = some (.slice none 0 0) := (blk_cell hT 0).trans rfl; have ht1 : w1.cell? ⟨w.heap.size, 1, none⟩ = some (.slice none 0 0) := (blk_cell hT 1).trans rfl; have hf0 := blk_frozen hT 0; have hf1 := blk_frozen hT 1; have HT := Lib.hid hT; have HB := Lib.hid (below_step (below_alloc (Below.refl w.heap.size w) _) hb); clear hb hT)
 (try rw [Exit.noGoto_ret])
 refine bodyPost_ret (results_ct rfl _ _ w.heap.size 27 #[.slice none 0 0, .slice none 0 0] (0, 0) _ rfl (by first | exact blk_set (blk_set HT.out 0 (.slice none 0 0)) 1 (.slice none 0 0) | exact HT.out) Tryz.underlying27 rfl (by kernel_rfl)) rfl ?_
 exact ⟨rfl, (HB.out.setCell (p := ⟨w.heap.size, 0, none⟩) (Nat.le_refl _) _).setCell (p := ⟨w.heap.size, 1, none⟩) (Nat.le_refl _) _⟩
abbrev tz : Tok := ⟨0, 0, 0, ⟨#[]⟩, ⟨#[]⟩⟩
def Sane (P : Nat → PS) (l : List Tok) : Prop :=
 l.length ≤ 800000 ∧ (∀ k, k ≤ l.length → (P k).n.length ≤ 800000 ∧ (P k).s.length ≤ 800000 ∧ (P k).o.length ≤ 800000 ∧ (P k).x.size ≤ 4000000 ∧ topP (P k).o < ((P k).s.length : Int)) ∧
 (∀ k, k < l.length → P (k + 1) = stepT (P k) (l.getD k tz)) ∧ (∀ k, k < l.length → ((l.getD k tz).f0 = 2 ∨ (l.getD k tz).f0 = 4) → 0 ≤ topP (P k).o)
theorem tree_c {w0 w : World} {g : Nat} {v1 v2 v3 : Value} {p : PS} (h : Bd w0 w g v1 v2 v3 p) (hl : p.n.length ≤ 900000) (hl3 : p.o.length ≤ 900000) (hs : p.s.length = p.n.length) (hx : ∀ s, s ∈ p.s → s.size ≤ maxLen) :
 Calls Tryz.prog 31 #[.pointer (some ⟨g, 0, none⟩)] w fun e w' => ∃ u1 u2, e = .returned (.tuple #[.agg #[u1, u2], .int .i64 (treeP p).2]) ∧ Kd.R Kd.string 9 w' w0.heap.size (fun _ => True) u1 (treeP p).1.1 ∧ Kd.R k41 41 w' w0.heap.size (fun _ => True) u2 (treeP p).1.2 ∧ Below w0.heap.size w0 w' := by
 by_cases hb : p.wr = true ∨ 0 < p.o.length ∨ p.n.length = 0
 ·refine (tree_no h hl hl3 hb).mono ?_
  rintro e w' ⟨rfl, hbl⟩
  have ht : treeP p = (([], []), 15) := by unfold treeP; rw [if_pos hb]
  rw [ht]
  exact ⟨_, _, rfl, Kd.R_nil _ _ _ _ _, Kd.R_nil _ _ _ _ _, below_step h.bel hbl⟩
 ·have h1 : p.wr = false := by
   cases hw : p.wr with
   | true => exact absurd (Or.inl hw) hb
   | false => rfl
  exact tree_yes h hl hs hx h1 (Nat.eq_zero_of_not_pos fun c => hb (Or.inr (Or.inl c))) (Nat.pos_of_ne_zero fun c => hb (Or.inr (Or.inr c)))
set_option maxHeartbeats 16000000 in
set_option maxRecDepth 100000 in
theorem parse_good (w : World) (hG : G w) (d : ByteArray) (hs : d.size ≤ 4294967280) (he : (lexV d).2 = 0) (P : Nat → PS) (hP : Sane P (lexV d).1) (h0 : P 0 = psZero)
 (hF : (flushP (P (lexV d).1.length)).s.length = (flushP (P (lexV d).1.length)).n.length ∧ ∀ s, s ∈ (flushP (P (lexV d).1.length)).s → s.size ≤ maxLen) :
 Calls Tryz.prog 12 #[.string d] w fun e w' => ∃ u1 u2, e = .returned (.tuple #[.agg #[u1, u2], .int .i64 (treeP (flushP (P (lexV d).1.length))).2]) ∧ Kd.R Kd.string 9 w' w.heap.size (fun _ => True) u1 (treeP (flushP (P (lexV d).1.length))).1.1 ∧ Kd.R k41 41 w' w.heap.size (fun _ => True) u2 (treeP (flushP (P (lexV d).1.length))).1.2 ∧ Below w.heap.size w w' := by
 have hL := Lib.hid (fun W (hG : G W) => lex_says d hs W hG)
 have HG := Lib.hid hG
 rw [he] at hL
 obtain ⟨l, hl⟩ : ∃ l, (lexV d).1 = l := ⟨_, rfl⟩
 rw [hl] at hL hP hF ⊢
 obtain ⟨L, hLL⟩ : ∃ L, l.length = L := ⟨_, rfl⟩
 rw [hLL] at hF ⊢
 have HP := Lib.hid hP
 have HF := Lib.hid hF
 have HLL := Lib.hid hLL
 have H00 := Lib.hid h0
 clear hP hF hLL hl hG hs he h0
 obtain ⟨q, hq⟩ : ∃ q, flushP (P L) = q := ⟨_, rfl⟩
 have HQ := Lib.hid hq
 rw [hq]
 clear hq
 go_enter Tryz.func12, Tryz.ntmps12
 go_wp2
 go_step3
 go_wp2_with (go_at_call 25; go_must (refine (hL.out _ (G.below HG.out (zz2))).mono ?_); rintro e w1 ⟨v0, rfl, hR, hb⟩; have hT : w1.heap[w.heap.size]? = some (.cells #[.slice none 0 0, .slice none 0 0] 27 (0, 0)) := blk_below (blk_new w _) hb; have hR := Kd.R_lower (base' := w.heap.size) hR (by simp); obtain ⟨A, c, rfl, hc, -⟩ := Kd.R_reads hR; have HR := Lib.hid hR; have HT := Lib.hid hT; have HB := Lib.hid (below_step (below_alloc (Below.refl w.heap.size w) _) hb); clear hb hT hR)
 try go_step3
 try go_wp2
 rw [HLL.out] at hc ⊢
 have hBd : Bd w1 (w1.alloc (.cells #[.slice none 0 0, .slice none 0 0, .slice none 0 0, .string ⟨#[]⟩, .bool false, .bool false] 49)) w1.heap.size (.slice none 0 0) (.slice none 0 0) (.slice none 0 0) psZero := ⟨blk_new _ _, Nat.le_refl _, Kd.R_nil _ _ _ _ _, Kd.R_nil _ _ _ _ _, Kd.R_nil _ _ _ _ _, below_alloc (Below.refl _ _) _⟩
 rw [← H00.out] at hBd
 have HBd := Lib.hid hBd
 clear hBd
 obtain ⟨g, hg⟩ : ∃ g, w1.heap.size = g := ⟨_, rfl⟩
 rw [hg] at HBd ⊢
 go_loopw [22] (fun t wr => ∃ k : Nat, k ≤ L ∧ t = .int .i64 k ∧ ∃ v1 v2 v3, Hid (Bd w1 wr g v1 v2 v3 (P k))) (fun t wr => L - (intOf t).toNat)
 case atStart => exact ⟨0, Nat.zero_le _, rfl, _, _, _, HBd⟩
 case round =>
  clear HBd
  obtain ⟨k, hk, rfl, v1, v2, v3, HK⟩ := hrel
  have HLs := HP.out.2.1 k (by rw [HLL.out]; exact hk)
  by_cases hlt : k < L
  ·have hkl : k < l.length := by rw [HLL.out]; exact hlt
   have hRk := Kd.R_below (HR.out) HK.out.bel
   obtain ⟨-, -, hC⟩ := Kd.R_reads' hRk
   obtain ⟨ad, hA, r0, r1, r2, r3, r4⟩ := at_T51 hC (k : Int) (by omega) (by omega)
   subst hA
   have hrd : rd_T51 l (k : Int) = l.getD k tz := by unfold rd_T51; rw [Int.toNat_natCast]; rfl
   rw [hrd, Int.toNat_natCast] at r0 r1 r2 r3 r4
   have hst := HP.out.2.2.1 k hkl
   have htg := HP.out.2.2.2 k hkl
   have HLs' := HP.out.2.1 (k + 1) (by rw [HLL.out]; omega)
   obtain ⟨t, ht⟩ : ∃ t, l.getD k tz = t := ⟨_, rfl⟩
   rw [ht] at r0 r1 r2 r3 r4 hst htg
   obtain ⟨p, hp⟩ : ∃ p, P k = p := ⟨_, rfl⟩
   have HKS := Lib.hid (show stepT p t = P (k + 1) from by rw [← hp]; exact hst.symm)
   rw [hp] at HK HLs htg hst
   rw [hst] at HLs'
   have p0 : ((0 : Int) ≤ (k : Int)) = True := eq_true (by omega)
   have p1 : ((k : Int) < (L : Int)) = True := eq_true (by omega)
   have e1 : IntKind.i64.wrap ((k : Int) + 1) = ((k + 1 : Nat) : Int) := by have := HP.out.1; rw [IntKind.wrap_i64]; omega
   have HX := Lib.hid hlt
   have HLS := Lib.hid HLs
   have HLS' := Lib.hid HLs'
   have hc3 := HK.out.c3
   have hc1 := HK.out.c1
   have hf3 := HK.out.f 3
   have hTG := Lib.hid htg
   clear hRk hC hrd hst ht hp hkl HLs HLs' htg
   by_cases c7 : t.f0 = 7
   ·have b7 : (t.f0 == 7) = true := by rw [c7]; rfl
    have hS : stepT p t = p := by unfold stepT; rw [if_pos c7]
    rw [hS] at HKS
    clear HLS'
    go_wp2
    go_roundw
    case rel => exact ⟨k + 1, by omega, by first | rfl | go_num, _, _, _, Lib.hid (HKS.out ▸ HK.out.below (zz25))⟩
    case measure => simp [intOf]; omega
   have b7 : (t.f0 == 7) = false := by rw [beq_eq_false_iff_ne]; exact c7
   by_cases c6 : t.f0 = 6
   ·have b6 : (t.f0 == 6) = true := by rw [c6]; rfl
    have hS : stepT p t = { p with x := p.x ++ t.f4 } := by unfold stepT; rw [if_neg c7, if_pos c6]
    rw [hS] at HKS HLS'
    go_wp2
    have hxs := HLS'.out.2.2.2.1
    have hH := Lib.hid (HK.out.below (below_alloc (Below.refl wr.heap.size wr) (.cells #[.int .i64 6, .int .i64 t.f1, .int .i64 t.f2, .string t.f3, .string t.f4] 51)))
    have hk4 : (wr.alloc (.cells #[.int .i64 6, .int .i64 t.f1, .int .i64 t.f2, .string t.f3, .string t.f4] 51)).cell? ⟨wr.heap.size, 4, none⟩ = some (.string t.f4) := (blk_cell (blk_new wr _) 4).trans rfl
    obtain ⟨gt, hgt⟩ : ∃ gt, wr.heap.size = gt := ⟨_, rfl⟩
    rw [hgt] at hk4 ⊢
    clear hc3 hf3 hc1
    obtain ⟨W, hW⟩ : ∃ W, wr.alloc (.cells #[.int .i64 6, .int .i64 t.f1, .int .i64 t.f2, .string t.f3, .string t.f4] 51) = W := ⟨_, rfl⟩
    rw [hW] at hk4 hH ⊢
    have hc3 := hH.out.c3
    have hf3 := hH.out.f 3
    have hx1 : ¬ 9223372036854775807 < p.x.size + t.f4.size := by rw [ByteArray.size_append] at hxs; omega
    go_region
    all_goals
     (try go_wp2)
     go_roundw
     case rel => exact ⟨k + 1, by omega, by first | rfl | go_num, _, _, _, Lib.hid (show Bd w1 _ g _ _ _ (P (k + 1)) from by rw [← HKS.out]; first | exact hH.out.set { p with x := p.x ++ t.f4 } rfl rfl rfl 3 (.string (p.x ++ t.f4)) rfl | exact hH.out.drew.set { p with x := p.x ++ t.f4 } rfl rfl rfl 3 (.string (p.x ++ t.f4)) rfl)⟩
     case measure => simp [intOf]; omega
   have b6 : (t.f0 == 6) = false := by rw [beq_eq_false_iff_ne]; exact c6
   by_cases c1 : t.f0 = 1
   ·have b1 : (t.f0 == 1) = true := by rw [c1]; rfl
    have hS : stepT p t = beginP p t.f3 := by unfold stepT; rw [if_neg c7, if_neg c6, if_pos c1]
    rw [hS] at HKS
    clear HLS'
    go_wp2_with (go_at_call 26; refine (begin_c (w0 := w1) (g := g) (p := p) (by exact HK.out.below (zz25)) (zz23) (zz23) (zz23) (zz23) t.f3).mono ?_; rintro e w3 ⟨rfl, x1, x2, x3, hx⟩; have H3 := Lib.hid hx; clear hx)
    go_roundw
    case rel => exact ⟨k + 1, by omega, by first | rfl | go_num, _, _, _, Lib.hid (HKS.out ▸ H3.out)⟩
    case measure => simp [intOf]; omega
   have b1 : (t.f0 == 1) = false := by rw [beq_eq_false_iff_ne]; exact c1
   by_cases c2 : t.f0 = 2
   ·have b2 : (t.f0 == 2) = true := by rw [c2]; rfl
    have hS : stepT p t = attrS p t.f3 t.f4 := by unfold stepT; rw [if_neg c7, if_neg c6, if_neg c1, if_pos c2]
    rw [hS] at HKS
    have hge := hTG.out (Or.inl c2)
    have HGE := Lib.hid hge
    clear HLS' hge
    go_wp2_with (go_at_call 27; refine (attr_c' (w0 := w1) (g := g) (p := p) (by exact HK.out.below (zz25)) (zz23) (zz23) (zz23) (by have := HLS.out; have := HGE.out; omega) (zz23) HGE.out t.f3 t.f4).mono ?_; rintro e w3 ⟨rfl, x1, x2, x3, hx⟩; have H3 := Lib.hid hx; clear hx)
    go_roundw
    case rel => exact ⟨k + 1, by omega, by first | rfl | go_num, _, _, _, Lib.hid (HKS.out ▸ H3.out)⟩
    case measure => simp [intOf]; omega
   have b2 : (t.f0 == 2) = false := by rw [beq_eq_false_iff_ne]; exact c2
   by_cases c4 : t.f0 = 4
   ·have b4 : (t.f0 == 4) = true := by rw [c4]; rfl
    have hS : stepT p t = endP p (p.s.getD (topP p.o).toNat ⟨#[]⟩) := by unfold stepT; rw [if_neg c7, if_neg c6, if_neg c1, if_neg c2, if_pos c4]
    rw [hS] at HKS
    have hge := hTG.out (Or.inr c4)
    have HGE := Lib.hid hge
    clear HLS' hge
    go_wp2
    have hH := Lib.hid (HK.out.below (below_alloc (Below.refl wr.heap.size wr) (.cells #[.int .i64 4, .int .i64 t.f1, .int .i64 t.f2, .string t.f3, .string t.f4] 51)))
    obtain ⟨gt, hgt⟩ : ∃ gt, wr.heap.size = gt := ⟨_, rfl⟩
    rw [hgt]
    obtain ⟨W, hW⟩ : ∃ W, wr.alloc (.cells #[.int .i64 4, .int .i64 t.f1, .int .i64 t.f2, .string t.f3, .string t.f4] 51) = W := ⟨_, rfl⟩
    rw [hW] at hH ⊢
    have HNd := Lib.hid hH.out
    obtain ⟨A2, c2', hv2, -, hC⟩ := Kd.R_reads hH.out.r2
    subst hv2
    obtain ⟨T, hT⟩ : ∃ T, topP p.o = T := ⟨_, rfl⟩
    have hT0 : 0 ≤ T := by rw [← hT]; exact HGE.out
    have hT1 : T < (p.s.length : Int) := by rw [← hT]; exact HLS.out.2.2.2.2
    obtain ⟨ae, hae, hre⟩ := Kd.at_string hC T hT0 hT1
    subst hae
    have HT := Lib.hid hT
    obtain ⟨S, hS2⟩ : ∃ S : ByteArray, p.s.getD T.toNat ⟨#[]⟩ = S := ⟨_, rfl⟩
    rw [show rdOf ByteArray.empty p.s T = S from hS2] at hre
    rw [hT, hS2] at HKS
    have q0 := eq_true hT0
    have q1 := eq_true hT1
    have hc1 := hH.out.c1
    clear hc3 hf3 hC hS2 hT hS
    go_region_with (first | (go_at_call 29; refine (top_c (w0 := w1) (g := g) (p := p) (by repeat (with_reducible first | exact hH.out | apply Bd.drew | apply Bd.drewN)) (zz23)).mono ?_; rw [HT.out]; rintro e w2 ⟨rfl, n, rfl⟩) | (go_at_call 28; refine (end_c (w0 := w1) (g := g) (p := p) (by repeat (with_reducible first | exact hH.out | apply Bd.drew | apply Bd.drewN)) (zz23) (zz23) (zz23) (zz23) (zz23) S).mono ?_; rintro e w3 ⟨rfl, x1, x2, x3, hx⟩; have H3 := Lib.hid hx; clear hx))
    all_goals
     (try go_wp2)
     go_roundw
     case rel => exact ⟨k + 1, by omega, by first | rfl | go_num, _, _, _, Lib.hid (HKS.out ▸ H3.out)⟩
     case measure => simp [intOf]; omega
   have b4 : (t.f0 == 4) = false := by rw [beq_eq_false_iff_ne]; exact c4
   by_cases c5 : t.f0 = 5
   ·have b5 : (t.f0 == 5) = true := by rw [c5]; rfl
    have hS : stepT p t = endP p t.f3 := by unfold stepT; rw [if_neg c7, if_neg c6, if_neg c1, if_neg c2, if_neg c4, if_pos c5]
    rw [hS] at HKS
    clear HLS'
    go_wp2_with (go_at_call 28; refine (end_c (w0 := w1) (g := g) (p := p) (by exact HK.out.below (zz25)) (zz23) (zz23) (zz23) (zz23) (zz23) t.f3).mono ?_; rintro e w3 ⟨rfl, x1, x2, x3, hx⟩; have H3 := Lib.hid hx; clear hx)
    go_roundw
    case rel => exact ⟨k + 1, by omega, by first | rfl | go_num, _, _, _, Lib.hid (HKS.out ▸ H3.out)⟩
    case measure => simp [intOf]; omega
   have b5 : (t.f0 == 5) = false := by rw [beq_eq_false_iff_ne]; exact c5
   have hS : stepT p t = p := by unfold stepT; rw [if_neg c7, if_neg c6, if_neg c1, if_neg c2, if_neg c4, if_neg c5]
   rw [hS] at HKS
   clear HLS'
   go_wp2
   go_roundw
   case rel => exact ⟨k + 1, by omega, by first | rfl | go_num, _, _, _, Lib.hid (HKS.out ▸ HK.out.below (zz25))⟩
   case measure => simp [intOf]; omega
  ·have hkL : k = L := by omega
   subst hkL
   have p1 : ((k : Int) < (k : Int)) = False := eq_false (by omega)
   have HLS := Lib.hid HLs
   obtain ⟨f1, f2, f3, f4⟩ := flush_lens (P k)
   have HF' := HF.out
   rw [HQ.out] at f1 f2 f3 f4 HF'
   have HF1 := Lib.hid f1
   have HF3 := Lib.hid f3
   have HFF := Lib.hid HF'
   clear HLs f1 f2 f3 f4 HF'
   go_wp2_with (first | (go_at_call 30; refine (flush_c (w0 := w1) (g := g) (p := P k) (by with_reducible first | exact HK.out | exact HK.out.drew) (zz23) (zz23) (zz23) (zz23)).mono ?_; rw [HQ.out]; rintro e w3 ⟨rfl, x1, x2, hx⟩; have H3 := Lib.hid hx; clear hx) | (go_at_call 31; refine (tree_c (w0 := w1) (g := g) (p := q) (by with_reducible first | exact H3.out | exact H3.out.drew) (by have := HLS.out; have := HF1.out; omega) (by have := HLS.out; have := HF3.out; rw [HF3.out]; omega) HFF.out.1 HFF.out.2).mono ?_; rintro e w4 ⟨u1, u2, rfl, ho1, ho2, hb4⟩; obtain ⟨A5, c5, rfl, -, -⟩ := Kd.R_reads ho1; obtain ⟨A6, c6, rfl, -, -⟩ := Kd.R_reads ho2; have hT4 := blk_below HT.out hb4; have ht0 : w4.cell? ⟨w.heap.size, 0, none⟩ = some (.slice none 0 0) := (blk_cell hT4 0).trans rfl; have ht1 : w4.cell? ⟨w.heap.size, 1, none⟩ = some (.slice none 0 0) := (blk_cell hT4 1).trans rfl; have hf0 := blk_frozen hT4 0; have hf1 := blk_frozen hT4 1; have HT4 := Lib.hid hT4; have HB4 := Lib.hid (below_step HB.out hb4); have HO1 := Lib.hid (Kd.R_lower (base' := w.heap.size) ho1 HB.out.size); have HO2 := Lib.hid (Kd.R_lower (base' := w.heap.size) ho2 HB.out.size); clear hb4 hT4 ho1 ho2))
   (try rw [Exit.noGoto_ret])
   refine bodyPost_ret (results_ct rfl _ _ w.heap.size 27 #[.slice A5 (treeP q).1.1.length c5, .slice A6 (treeP q).1.2.length c6] (0, 0) _ rfl (blk_set (blk_set HT4.out 0 (.slice A5 (treeP q).1.1.length c5)) 1 (.slice A6 (treeP q).1.2.length c6)) Tryz.underlying27 rfl (by kernel_rfl)) rfl ?_
   have n1 := Kd.R_ne HO1.out HT4.out (by decide)
   have n2 := Kd.R_ne HO2.out HT4.out (by decide)
   exact ⟨_, _, rfl, R_away_set (R_away_set HO1.out rfl n1 0 _) rfl n1 1 _, R_away_set (R_away_set HO2.out rfl n2 0 _) rfl n2 1 _, (HB4.out.setCell (p := ⟨w.heap.size, 0, none⟩) (Nat.le_refl _) _).setCell (p := ⟨w.heap.size, 1, none⟩) (Nat.le_refl _) _⟩
theorem sane_lex (d : ByteArray) (h : (lexV d).2 = 0) : Sane (fun k => ((lexV d).1.take k).foldl stepT psZero) (lexV d).1 := by
 have hsm := lexV_small d h
 have hseg := lexV_seg d h
 have hlen := seg_len _ _ _ _ _ _ hseg
 have hrun := inv_run _ _ _ _ _ _ psZero 0 0 hseg (lexV_vals d) inv_zero
 refine ⟨by omega, fun k hk => ?_, fun k hk => ?_, fun k hk ht => ?_⟩
 ·obtain ⟨x', m', i1, i2, i3⟩ := hrun k hk
  have hlt := topP_lt i1
  obtain ⟨h1, h2, h3, h4, h5, h6, h7⟩ := i1
  refine ⟨?_, ?_, ?_, ?_, hlt⟩
  all_goals (simp only; omega)
 ·show ((lexV d).1.take (k + 1)).foldl stepT psZero = stepT _ _
  rw [List.take_add_one, List.getElem?_eq_getElem hk]
  show ((lexV d).1.take k ++ [(lexV d).1[k]]).foldl stepT psZero = _
  rw [List.foldl_append, List.getD_eq_getElem?_getD, List.getElem?_eq_getElem hk]; rfl
 ·obtain ⟨x', m', i1, i2, i3⟩ := hrun k (Nat.le_of_lt hk)
  have hx := i3 _ (List.getElem?_eq_getElem hk)
  rw [List.getD_eq_getElem?_getD, List.getElem?_eq_getElem hk] at ht
  have ht : (lexV d).1[k].f0 = 2 ∨ (lexV d).1[k].f0 = 4 := ht
  have : x' = true := by
   rw [hx]
   rcases ht with ht | ht
   ·rw [ht]; rfl
   ·rw [ht]; rfl
  rw [this] at i1
  exact topP_ge i1
theorem parse_c (w : World) (hG : G w) (d : ByteArray) (hs : d.size ≤ 4294967280) :
 Calls Tryz.prog 12 #[.string d] w fun e w' => ∃ u1 u2, e = .returned (.tuple #[.agg #[u1, u2], .int .i64 (parseV d).2]) ∧ Kd.R Kd.string 9 w' w.heap.size (fun _ => True) u1 (parseV d).1.1 ∧ Kd.R k41 41 w' w.heap.size (fun _ => True) u2 (parseV d).1.2 ∧ Below w.heap.size w w' := by
 unfold parseV
 by_cases he : (lexV d).2 = 0
 ·rw [if_pos he]
  have hall : ((lexV d).1.take (lexV d).1.length).foldl stepT psZero = (lexV d).1.foldl stepT psZero := by rw [List.take_of_length_le (Nat.le_refl _)]
  obtain ⟨x', m', i1, i2, i3⟩ := inv_run _ _ _ _ _ _ psZero 0 0 (lexV_seg d he) (lexV_vals d) inv_zero (lexV d).1.length (Nat.le_refl _)
  obtain ⟨f1, f2, f3, f4, f5⟩ := inv_flush i1
  have hsh : Sht d.size (((lexV d).1.take (lexV d).1.length).foldl stepT psZero).s := by
   rw [hall]; exact sht_run _ _ (fun s hs => by cases hs) (lexV_nms d)
  have hsm := lexV_small d he
  have := parse_good w hG d hs he (fun k => ((lexV d).1.take k).foldl stepT psZero) (sane_lex d he) rfl ⟨f1, fun s hs' => Nat.le_trans (sht_flush hsh s hs') (by unfold maxLen; omega)⟩
  simp only [hall] at this
  exact this
 ·rw [if_neg he]
  refine (parse_bad w hG d hs he).mono ?_
  rintro e w' ⟨rfl, hb⟩
  exact ⟨_, _, rfl, Kd.R_nil _ _ _ _ _, Kd.R_nil _ _ _ _ _, hb⟩
def parser_Parse.f (a0 : ByteArray) : Option (List ByteArray × List Nod × Int) := if a0.size ≤ 4294967280 then some ((parseV a0).1.1, (parseV a0).1.2, (parseV a0).2) else none
theorem parser_Parse.calls (a0 : ByteArray) (r1 : List ByteArray) (r2 : List Nod) (r3 : Int) (w : World) (hG : G w) (h : parser_Parse.f a0 = some (r1, r2, r3)) :
 Calls Tryz.prog 12 #[.string a0] w fun e w' => ∃ v1 v2 : Value, e = .returned (.tuple #[.agg #[v1, v2], .int .i64 r3]) ∧ Kd.R Kd.string 9 w' w.heap.size (fun _ => True) v1 r1 ∧ Kd.R k41 41 w' w.heap.size (fun _ => True) v2 r2 ∧ Below w.heap.size w w' := by
 unfold parser_Parse.f at h
 split at h
 ·rename_i hs
  have h := Option.some.inj h
  have h1 : r1 = (parseV a0).1.1 := by rw [Prod.mk.injEq] at h; exact h.1.symm
  have h2 : r2 = (parseV a0).1.2 := by rw [Prod.mk.injEq, Prod.mk.injEq] at h; exact h.2.1.symm
  have h3 : r3 = (parseV a0).2 := by rw [Prod.mk.injEq, Prod.mk.injEq] at h; exact h.2.2.symm
  subst h1 h2 h3
  exact parse_c w hG a0 hs
 ·cases h
end Go.Proofs.YtlhhhlimjajnlaaGreat.X
end
section
set_option linter.unusedVariables false
set_option linter.unusedSimpArgs false
namespace Go.Proofs.YtlhhhlimjajnlaaGreat.P13
open Go.RowKit Go.Proofs.YtlhhhlimjajnlaaGreat Go.Proofs.YtlhhhlimjajnlaaGreat.Q Go.Proofs.YtlhhhlimjajnlaaGreat.P11 Go.Proofs.YtlhhhlimjajnlaaGreat.P12 Go.Proofs.YtlhhhlimjajnlaaGreatW.PrintWords Go.Proofs.YtlhhhlimjajnlaaGreat.X
theorem parse1 (d : ByteArray) (h : (lexV d).2 = 0) : parseV d = treeP (flushP ((lexV d).1.foldl X.stepT psZero)) := by
 unfold parseV; rw [if_pos h]
end Go.Proofs.YtlhhhlimjajnlaaGreat.P13
end
