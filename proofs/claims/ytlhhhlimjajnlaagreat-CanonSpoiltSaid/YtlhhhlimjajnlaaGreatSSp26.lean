/- Parts of the proof of canonSpoilt_holds, kept and merged by a program of mine (wip/tools/slim.py) out of my texts: CanL CanM -/
import Derived.Test.YtlhhhlimjajnlaaGreatSSp0
import Derived.Deep.RegionHeld3
import Derived.Laws.EntriesVeiled
import Derived.Test.YtlhhhlimjajnlaaGreatSSp25
section
set_option linter.unusedVariables false
set_option linter.unusedSimpArgs false
namespace Go.Proofs.YtlhhhlimjajnlaaGreat.X
open Go.RowKit Go.Maps Go.Proofs.YtlhhhlimjajnlaaGreat Go.Proofs.YtlhhhlimjajnlaaGreat.Q Go.Proofs.YtlhhhlimjajnlaaGreatW.PrintWords Go.Proofs.YtlhhhlimjajnlaaGreatW.PrintLast Go.Proofs.YtlhhhlimjajnlaaGreatW.PrintMore
attribute [local go_sem] max2_int min2_int max_two min_two   
theorem new_cell (W : World) (v : Value) (t : Nat) (k : Nat) (hk : W.heap.size = k) : (W.alloc (.cells #[v] t)).cell? ⟨k, 0, none⟩ = some v ∧ (W.alloc (.cells #[v] t)).frozen? ⟨k, 0, none⟩ = false := by
 subst hk
 exact ⟨(blk_cell (blk_new W (.cells #[v] t)) 0).trans rfl, blk_frozen (blk_new W (.cells #[v] t)) 0⟩
theorem size_al (W : World) (o : Obj) : (W.alloc o).heap.size = W.heap.size + 1 := Array.size_push _
theorem close_n {w0 w : World} {b pb gb ob rb tr cN cD n nn : Nat} {AN AD : Option Addr} {vO : Value} {N : List ByteArray} {D : List Nod} {s : WS} (hn : D.length = n) (hnn : N.length = nn) (hN : Kd.C Kd.string w0 AN nn N) (hD : Kd.C k41 w0 AD n D) (h : Ww w0 w b pb gb ob rb tr (.slice AN nn cN) (.slice AD n cD) vO s)
 (hok : okN N D) (ho : okO D s) (hlen : s.out.length + 1100000000 * s.op.length ≤ 100000000000000) (hlo : s.op.length ≤ 1000000) (hl1 : nn ≤ 1000000) (hl2 : n ≤ 1000000) (p : Int) :
 Calls Tryz.prog 40 #[.int .i64 p, .pointer (some ⟨ob, 0, none⟩), .pointer (some ⟨rb, 0, none⟩), .pointer (some ⟨pb, 0, none⟩), .pointer (some ⟨tr, 0, none⟩)] w fun e w' => e = .returned (.tuple #[]) ∧ (∃ vO', Ww w0 w' b pb gb ob rb tr (.slice AN nn cN) (.slice AD n cD) vO' (closeW N D p s.op.length s)) ∧ StayT w w' := by
 subst hn hnn
 exact close_c hN hD h hok ho hlen hlo hl1 hl2 p
def nodeC (x : Nod) : Obj := .cells #[.int .i64 x.f0, .int .i64 x.f1, .int .i64 x.f2, .string x.f3] 41
theorem five {w0 W : World} {b pb gb ob rb tr nb cN nn : Nat} {an : Addr} {vD vO : Value} {N : List ByteArray} {s : WS} {x : Nod} {S : ByteArray} (hN : Kd.C Kd.string w0 (some an) nn N) (h : Ww w0 W b pb gb ob rb tr (.slice (some an) nn cN) vD vO s) (hb : W.heap[nb]? = some (nodeC x)) (m0 : 0 ≤ x.f1) (m1 : x.f1 < nn) (hS : N.getD x.f1.toNat ⟨#[]⟩ = S) :
 W.cell? ⟨pb, 0, none⟩ = some (.func (.func 37) #[] #[.pointer (some ⟨b, 0, none⟩)]) ∧ W.cell? ⟨tr, 0, none⟩ = some (.slice (some an) nn cN) ∧ W.cell? ⟨nb, 1, none⟩ = some (.int .i64 x.f1) ∧ W.cell? ⟨nb, 3, none⟩ = some (.string x.f3) ∧ W.cell? (an.add x.f1.toNat) = some (.string S) := by
 refine ⟨(blk_cell h.pc 0).trans rfl, (blk_cell h.tc 0).trans rfl, (blk_cell hb 1).trans rfl, (blk_cell hb 3).trans rfl, ?_⟩
 obtain ⟨an1, hAN, hre⟩ := Kd.at_string (Kd.C_below hN h.bel) x.f1 m0 m1
 obtain rfl : an = an1 := Option.some.inj hAN
 have hrs : rdOf ByteArray.empty N x.f1 = S := hS
 rw [hrs] at hre
 exact hre
theorem ww_zero {w w2 : World} {tr : Nat} {vN vD : Value} (hb : Below w.heap.size w w2) (ht : w2.heap[tr]? = some (.cells #[vN, vD] 27 (0, 0))) (b pb ob gb rb : Nat) (h0 : w2.heap.size = b) (h1 : b + 1 = pb) (h2 : pb + 1 = ob) (h3 : ob + 1 = gb) (h4 : gb + 1 = rb) :
 Ww w (((((w2.alloc (.cells #[.pointer none, .slice none 0 0] 65)).alloc (.cells #[.func (.func 37) #[] #[.pointer (some ⟨b, 0, none⟩)]] 70)).alloc (.cells #[.slice none 0 0] 47)).alloc (.cells #[.bool false] 4)).alloc (.cells #[.func (.func 39) #[] #[.pointer (some ⟨gb, 0, none⟩), .pointer (some ⟨pb, 0, none⟩)]] 1)) b pb gb ob rb tr vN vD (.slice none 0 0) ⟨[], [], false⟩ := by
 subst h0 h1 h2 h3 h4
 have hw := hb.size
 have nx : ∀ (W : World) (o : Obj) (k : Nat), W.heap.size = k → (W.alloc o).heap[k]? = some o ∧ (W.alloc o).heap.size = k + 1 ∧ Below k W (W.alloc o) := fun W o k hk => by
  subst hk; exact ⟨blk_new W o, size_al W o, below_alloc (Below.refl _ _) o⟩
 obtain ⟨W1, e1⟩ : ∃ W1, w2.alloc (.cells #[.pointer none, .slice none 0 0] 65) = W1 := ⟨_, rfl⟩
 obtain ⟨x1, z1, y1⟩ := nx w2 (.cells #[.pointer none, .slice none 0 0] 65) _ rfl
 rw [e1] at x1 z1 y1 ⊢
 obtain ⟨W2, e2⟩ : ∃ W2, W1.alloc (.cells #[.func (.func 37) #[] #[.pointer (some ⟨w2.heap.size, 0, none⟩)]] 70) = W2 := ⟨_, rfl⟩
 obtain ⟨x2, z2, y2⟩ := nx W1 (.cells #[.func (.func 37) #[] #[.pointer (some ⟨w2.heap.size, 0, none⟩)]] 70) _ z1
 rw [e2] at x2 z2 y2 ⊢
 obtain ⟨W3, e3⟩ : ∃ W3, W2.alloc (.cells #[.slice none 0 0] 47) = W3 := ⟨_, rfl⟩
 obtain ⟨x3, z3, y3⟩ := nx W2 (.cells #[.slice none 0 0] 47) _ z2
 rw [e3] at x3 z3 y3 ⊢
 obtain ⟨W4, e4⟩ : ∃ W4, W3.alloc (.cells #[.bool false] 4) = W4 := ⟨_, rfl⟩
 obtain ⟨x4, z4, y4⟩ := nx W3 (.cells #[.bool false] 4) _ z3
 rw [e4] at x4 z4 y4 ⊢
 generalize hO : (Obj.cells #[.func (.func 39) #[] #[.pointer (some ⟨w2.heap.size + 1 + 1 + 1, 0, none⟩), .pointer (some ⟨w2.heap.size + 1, 0, none⟩)]] 1) = O5
 obtain ⟨x5, z5, y5⟩ := nx W4 O5 _ z4
 rw [← z1] at y2
 rw [← z2] at y3
 rw [← z3] at y4
 rw [← z4] at y5
 have c45 : Below W4.heap.size W4 (W4.alloc O5) := y5
 have c35 : Below W3.heap.size W3 (W4.alloc O5) := below_step y4 c45
 have c25 : Below W2.heap.size W2 (W4.alloc O5) := below_step y3 c35
 have c15 : Below W1.heap.size W1 (W4.alloc O5) := below_step y2 c25
 have c05 : Below w2.heap.size w2 (W4.alloc O5) := below_step y1 c15
 refine ⟨.inl ⟨hw, .slice none 0 0, blk_below x1 c15, ⟨by simp, .inl ⟨rfl, rfl⟩⟩, by simp [Value.ownBlock]⟩, blk_below x2 c25, blk_below x4 c45, blk_below x3 c35, x5.trans (by rw [hO]), blk_below ht c05, Kd.R_nil _ _ _ _ _, by omega, by omega, below_step hb c05⟩
abbrev WRet (r : ByteArray × Int) : Ending := .returned (.tuple #[.string r.1, .int .i64 r.2])
set_option maxHeartbeats 8000000 in
set_option maxRecDepth 100000 in
theorem write_bad {w : World} {AN AD : Option Addr} {cN cD : Nat} {N : List ByteArray} {D : List Nod} (hN : Kd.C Kd.string w AN N.length N) (hD : Kd.C k41 w AD D.length D) (h1 : ∀ x, x ∈ N → x.size ≤ 1000000000) (h2 : ∀ x, x ∈ D → x.f3.size ≤ 1000000000) (hc : checkV N D ≠ 0) :
 Calls Tryz.prog 17 #[.agg #[.slice AN N.length cN, .slice AD D.length cD]] w fun e w' => e = WRet (⟨#[]⟩, checkV N D) ∧ Below w.heap.size w w' := by
 have hck : ∀ W, Below w.heap.size w W → Calls Tryz.prog 19 #[.agg #[.slice AN N.length cN, .slice AD D.length cD]] W fun e w' => e = .returned (.int .i64 (checkV N D)) ∧ Below W.heap.size W w' := fun W hb => check_all (Kd.C_below hN hb) (Kd.C_below hD hb) (fun x hx => by have := h2 x hx; omega) (fun x hx => by have := h1 x hx; omega)
 obtain ⟨V, hV⟩ : ∃ V, checkV N D = V := ⟨_, rfl⟩
 obtain ⟨n, hn⟩ : ∃ n, D.length = n := ⟨_, rfl⟩
 obtain ⟨nn, hnn⟩ : ∃ nn, N.length = nn := ⟨_, rfl⟩
 rw [hV, hn, hnn] at hck
 rw [hV] at hc ⊢
 rw [hn, hnn]
 have HCK := Lib.hid hck
 have q0 : (V != (0 : Int)) = true := by simp [hc]
 clear hck hN hD h1 h2 hc hV hn hnn
 have hbx := blk_new w (.cells #[.slice AN nn cN, .slice AD n cD] 27)
 have hx0 := (blk_cell hbx 0).trans (show _ = some (Value.slice AN nn cN) from rfl)
 have hx1 := (blk_cell hbx 1).trans (show _ = some (Value.slice AD n cD) from rfl)
 clear hbx
 go_enter Tryz.func17, Tryz.ntmps17
 go_wp2
 go_step3
 go_wp2_with (go_at_call 19; refine (HCK.out _ (below_alloc (Below.refl _ _) _)).mono ?_; rintro e w2 ⟨rfl, hb2⟩; have HB2 := Lib.hid (below_step (below_alloc (Below.refl w.heap.size w) _) hb2); clear hb2)
 (try rw [Exit.noGoto_ret])
 first | go_ret | go_ret2 | go_ret3
 exact ⟨rfl, HB2.out⟩
set_option maxHeartbeats 8000000 in
set_option maxRecDepth 100000 in
theorem write_ok {w : World} {AN AD : Option Addr} {cN cD : Nat} {N : List ByteArray} {D : List Nod} (hN : Kd.C Kd.string w AN N.length N) (hD : Kd.C k41 w AD D.length D) (h1 : ∀ x, x ∈ N → x.size ≤ 1000000000) (h2 : ∀ x, x ∈ D → x.f3.size ≤ 1000000000) (hc : checkV N D = 0) :
 Calls Tryz.prog 17 #[.agg #[.slice AN N.length cN, .slice AD D.length cD]] w fun e w' => e = WRet (writeV N D) ∧ Below w.heap.size w w' := by
 have hck : ∀ W, Below w.heap.size w W → Calls Tryz.prog 19 #[.agg #[.slice AN N.length cN, .slice AD D.length cD]] W fun e w' => e = .returned (.int .i64 (checkV N D)) ∧ Below W.heap.size W w' := fun W hb => check_all (Kd.C_below hN hb) (Kd.C_below hD hb) (fun x hx => by have := h2 x hx; omega) (fun x hx => by have := h1 x hx; omega)
 rw [hc] at hck
 have HOK := Lib.hid (okN_of hc h1 h2)
 have HCN := Lib.hid (check_named hc)
 have HVV := Lib.hid hc
 obtain ⟨n, hn⟩ : ∃ n, D.length = n := ⟨_, rfl⟩
 obtain ⟨nn, hnn⟩ : ∃ nn, N.length = nn := ⟨_, rfl⟩
 rw [hn, hnn] at hck
 rw [hn] at hD ⊢
 rw [hnn] at hN ⊢
 have HDN := Lib.hid hn
 have HNN := Lib.hid hnn
 have HCK := Lib.hid hck
 have HN := Lib.hid hN
 have HD := Lib.hid hD
 clear hck hN hD h1 h2 hc hn hnn
 have hbx := blk_new w (.cells #[.slice AN nn cN, .slice AD n cD] 27)
 have hx0 := (blk_cell hbx 0).trans (show _ = some (Value.slice AN nn cN) from rfl)
 have hx1 := (blk_cell hbx 1).trans (show _ = some (Value.slice AD n cD) from rfl)
 have HBX := Lib.hid hbx
 clear hbx
 go_enter Tryz.func17, Tryz.ntmps17
 go_wp2
 go_step3
 go_wp2_with (go_at_call 19; refine (HCK.out _ (below_alloc (Below.refl _ _) _)).mono ?_; rintro e w2 ⟨rfl, hb2⟩; have hbx2 := blk_below HBX.out hb2; have hy0 := (blk_cell hbx2 0).trans (show _ = some (Value.slice AN nn cN) from rfl); have hy1 := (blk_cell hbx2 1).trans (show _ = some (Value.slice AD n cD) from rfl); have HBX2 := Lib.hid hbx2; have HB2 := Lib.hid (below_step (below_alloc (Below.refl w.heap.size w) _) hb2); clear hb2 hbx2; obtain ⟨f1, f1f⟩ := new_cell (w2.alloc (.cells #[.pointer none, .slice none 0 0] 65)) .nilFunc 70 (w2.heap.size + 1) (size_al _ _))
 try go_wp2
 have HW := Lib.hid (ww_zero HB2.out HBX2.out _ _ _ _ _ rfl rfl rfl rfl rfl)
 have hbB := HB2.out.size
 clear f1 f1f hy0 hy1 hx0 hx1
 generalize (((((w2.alloc (.cells #[.pointer none, .slice none 0 0] 65)).alloc (.cells #[.func (.func 37) #[] #[.pointer (some ⟨w2.heap.size, 0, none⟩)]] 70)).alloc (.cells #[.slice none 0 0] 47)).alloc (.cells #[.bool false] 4)).alloc (.cells #[.func (.func 39) #[] #[.pointer (some ⟨w2.heap.size + 1 + 1 + 1, 0, none⟩), .pointer (some ⟨w2.heap.size + 1, 0, none⟩)]] 1)) = W at HW ⊢
 generalize w2.heap.size + 1 + 1 + 1 + 1 = rb at HW ⊢
 generalize w2.heap.size + 1 + 1 + 1 = gb at HW ⊢
 generalize w2.heap.size + 1 + 1 = ob at HW ⊢
 generalize w2.heap.size + 1 = pb at HW ⊢
 generalize w2.heap.size = b at HW hbB ⊢
 have hbw : w.heap.size ≤ w.heap.size := Nat.le_refl _
 generalize hTR : w.heap.size = tr at HW hbB ⊢
 clear HBX HBX2 HB2 HCK
 have ht1 := (blk_cell HW.out.tc 1).trans (show _ = some (Value.slice AD n cD) from rfl)
 obtain ⟨R, hR⟩ : ∃ R, nodesW N D D 0 ⟨[], [], false⟩ = R := ⟨_, rfl⟩
 have HR := Lib.hid hR
 have HR0 := Lib.hid hR
 clear hR
 have hn5 : n ≤ 5000 := by have h1 := HCN.out.1; rw [HDN.out] at h1; exact h1
 have hnn5 : nn ≤ 1000 := by have h1 := HCN.out.2.1; rw [HNN.out] at h1; exact h1
 have HI := Lib.hid (show WInv D 0 ⟨[], [], false⟩ from ⟨fun j hj => (by cases hj), (by simp), (by simp)⟩)
 go_step3
 go_wp2
 go_loopw [24] (fun t wr => ∃ i : Nat, i ≤ n ∧ t = .int .i64 i ∧ ∃ s vO, Hid (Ww w wr b pb gb ob rb tr (.slice AN nn cN) (.slice AD n cD) vO s) ∧ Hid (nodesW N D (D.drop i) i s = R) ∧ Hid (WInv D i s)) (fun t wr => n - (intOf t).toNat)
 case atStart => exact ⟨0, Nat.zero_le _, rfl, _, _, HW, HR, HI⟩
 case round =>
  clear HW HR HI ht1
  obtain ⟨i, hi, rfl, s, vO, HW, HR, HI⟩ := hrel
  by_cases hlt : i < n
  ·have hC := Kd.C_below HD.out HW.out.bel
   obtain ⟨ad, hA, r0, r1, r2, r3⟩ := at_T41 hC (i : Int) (by omega) (by omega)
   have hrd : rd_T41 D (i : Int) = D.getD i xz := by unfold rd_T41; rw [Int.toNat_natCast]; rfl
   rw [hrd, Int.toNat_natCast] at r0 r1 r2 r3
   have hDn := HDN.out
   have hiD : i < D.length := by omega
   have hmem : D.getD i xz ∈ D := getD_memD hiD
   have hdrop : D.drop i = D.getD i xz :: D.drop (i + 1) := by rw [List.drop_eq_getElem_cons hiD, List.getD_eq_getElem?_getD, List.getElem?_eq_getElem hiD]; rfl
   obtain ⟨x, hx⟩ : ∃ x, D.getD i xz = x := ⟨_, rfl⟩
   have HI2 := Lib.hid (nodeW_inv HOK.out hiD hx HI.out)
   rw [hx] at r0 r1 r2 r3 hmem hdrop
   have HR2 := Lib.hid (show nodesW N D (D.drop (i + 1)) (i + 1) (nodeW N D i x s) = R by have h := HR.out; rw [hdrop] at h; exact h)
   subst hA
   have hxs : x.f3.size ≤ 1000000000 := HOK.out.2.1 x hmem
   have hnk := named_kind (HCN.out.2.2 x hmem)
   rw [HNN.out] at hnk
   have p0 : ((0 : Int) ≤ (i : Int)) = True := eq_true (by omega)
   have p1 : ((i : Int) < (n : Int)) = True := eq_true (by omega)
   have e1 : IntKind.i64.wrap ((i : Int) + 1) = ((i + 1 : Nat) : Int) := zz15
   have hcl := fun W (hW : Ww w W b pb gb ob rb tr (.slice AN nn cN) (.slice (some ad) n cD) vO s) => close_n HDN.out HNN.out HN.out HD.out hW HOK.out HI.out.ok (by have := HI.out.len; omega) (by have := HI.out.op; omega) (by omega) (by omega) x.f2
   have HCL := Lib.hid hcl
   obtain ⟨C, hCC⟩ : ∃ C, closeW N D x.f2 s.op.length s = C := ⟨_, rfl⟩
   have HCC := Lib.hid hCC
   have HIC := Lib.hid (show WInv D i C from hCC ▸ closeW_inv HOK.out x.f2 s.op.length s HI.out)
   have hes : ∀ W, Calls Tryz.prog 41 #[.string x.f3] W fun e w' => e = .returned (.string ⟨(escL x.f3.data.toList).toArray⟩) ∧ Below W.heap.size W w' := fun W => escape_c x.f3 (by omega) W
   have HES := Lib.hid hes
   have HLT := Lib.hid hlt
   have HXS := Lib.hid hxs
   have HNK := Lib.hid hnk
   have HM := Lib.hid hmem
   have HX := Lib.hid hx
   clear hC hrd hDn hiD hmem hdrop hxs hnk hcl hCC hes hx
   by_cases k2 : x.f0 = 2
   ·have q2 : (x.f0 == 2) = true := by rw [k2]; rfl
    have HK2 := Lib.hid k2
    clear k2
    go_wp2_with (go_at_call 40; refine (HCL.out _ (HW.out.below (zz2))).mono ?_; rintro e w3 ⟨rfl, ⟨vO3, h3⟩, ht3⟩; rw [HCC.out] at h3; have H3 := Lib.hid h3; have hbx := ht3 _ _ _ (blk_new wr (nodeC x)) (by decide) (by decide) (by decide) (by decide); have hz0 := (blk_cell hbx 0).trans (show _ = some (Value.int .i64 x.f0) from rfl); have HBX := Lib.hid hbx; clear h3 ht3 hbx)
    obtain ⟨m0, m1⟩ := HNK.out.1 (by rw [HK2.out]; decide)
    obtain ⟨an, hAN, -⟩ := Kd.at_string HN.out x.f1 m0 m1
    subst hAN
    obtain ⟨S, hS⟩ : ∃ S, N.getD x.f1.toNat ⟨#[]⟩ = S := ⟨_, rfl⟩
    obtain ⟨E, hE⟩ : ∃ E, (⟨(escL x.f3.data.toList).toArray⟩ : ByteArray) = E := ⟨_, rfl⟩
    have hfive : ∀ (W : World) (vO2 : Value) (s2 : WS), Ww w W b pb gb ob rb tr (.slice (some an) nn cN) (.slice (some ad) n cD) vO2 s2 → W.heap[wr.heap.size]? = some (nodeC x) → _ := fun W vO2 s2 h hb => five HN.out h hb m0 m1 hS
    have HF := Lib.hid hfive
    obtain ⟨s1, s2, s3, s4, s5⟩ := HF.out w3 _ _ H3.out HBX.out
    have p6 : ((0 : Int) ≤ x.f1) = True := eq_true m0
    have p7 : (x.f1 < (nn : Int)) = True := eq_true m1
    have hSs : S.data.toList.length ≤ 1000000000 := by rw [← hS]; exact name_size HOK.out HM.out (by rw [HK2.out]; decide)
    have hEs : E.data.toList = escL x.f3.data.toList := by rw [← hE]
    have hEl := escL_size HXS.out
    rw [← hEs] at hEl
    have hlp : (putL [(⟨#[32]⟩ : ByteArray), S, ⟨#[61, 34]⟩, E, ⟨#[34]⟩]) = [32] ++ S.data.toList ++ [61, 34] ++ E.data.toList ++ [34] := by simp [putL]
    have HBD := Lib.hid (show C.out.length + (putL [(⟨#[32]⟩ : ByteArray), S, ⟨#[61, 34]⟩, E, ⟨#[34]⟩]).length ≤ 140737488355328 by
     have := HIC.out.len
     rw [hlp]
     simp only [List.length_append, List.length_cons, List.length_nil]
     omega)
    have HST := Lib.hid (show ({ C with out := C.out ++ putL [(⟨#[32]⟩ : ByteArray), S, ⟨#[61, 34]⟩, E, ⟨#[34]⟩] } : WS) = nodeW N D i x s by
     unfold nodeW
     simp only [HCC.out, if_pos HK2.out, hS, hlp, hEs])
    have hes : ∀ W, Calls Tryz.prog 41 #[.string x.f3] W fun e w' => e = .returned (.string E) ∧ Below W.heap.size W w' := hE ▸ HES.out
    have HES2 := Lib.hid hes
    clear hfive hS hE hSs hEs hEl hlp hes HES
    go_wp2
    go_region_held3 (fun W => W.cell? ⟨pb, 0, none⟩ = some (.func (.func 37) #[] #[.pointer (some ⟨b, 0, none⟩)]) ∧ W.cell? ⟨tr, 0, none⟩ = some (.slice (some an) nn cN) ∧ W.cell? ⟨wr.heap.size, 1, none⟩ = some (.int .i64 x.f1) ∧ W.cell? ⟨wr.heap.size, 3, none⟩ = some (.string x.f3) ∧ W.cell? (an.add x.f1.toNat) = some (.string S)) (first | exact ⟨by assumption, by assumption, by assumption, by assumption, by assumption⟩ | go_keep) (first | (go_at_call 41; refine (HES2.out _).mono ?_; rintro e w4 ⟨rfl, hb4⟩; have hbb : Below w3.heap.size w3 w4 := below_step (zz2) hb4; have H4 := Lib.hid (H3.out.below hbb); have HBX4 := Lib.hid (blk_below HBX.out hbb); obtain ⟨t1, t2, t3, t4, t5⟩ := HF.out w4 _ _ H4.out HBX4.out; clear hb4 hbb) | (go_at_call 37; refine (putw_c (l := [(⟨#[32]⟩ : ByteArray), S, ⟨#[61, 34]⟩, E, ⟨#[34]⟩]) (H4.out.below (zz2)) (zz35) (by simp) HBD.out).mono ?_; rintro e w5 ⟨rfl, h5, ht5⟩; have H5 := Lib.hid h5; obtain ⟨v1, v2, v3, v4, v5⟩ := HF.out w5 _ _ h5 (ht5 _ _ _ (blk_below HBX4.out (zz2)) (by decide) (by decide) (by decide) (by decide)); clear h5 ht5))
    go_wp2
    go_roundw
    case rel => exact ⟨i + 1, zz33, by first | rfl | go_num, _, _, Lib.hid (HST.out ▸ H5.out), HR2, HI2⟩
    case measure => have := HLT.out; simp [intOf]; omega
   ·have q2 : (x.f0 == 2) = false := by simpa using k2
    have HK2 := Lib.hid k2
    have HCL2 := Lib.hid (show C.out.length ≤ 140737488355000 by have := HIC.out.len; omega)
    clear k2
    by_cases k3 : x.f0 = 3
    ·have q3 : (x.f0 == 3) = true := by rw [k3]; rfl
     have HK3 := Lib.hid k3
     clear k3
     obtain ⟨E, hE⟩ : ∃ E, (⟨(escL x.f3.data.toList).toArray⟩ : ByteArray) = E := ⟨_, rfl⟩
     have hEs : E.data.toList = escL x.f3.data.toList := by rw [← hE]
     have hEl := escL_size HXS.out
     rw [← hEs] at hEl
     have hlp : (putL [E]) = E.data.toList := by simp [putL]
     have HBD := Lib.hid (show (readyW C).out.length + (putL [E]).length ≤ 140737488355328 by
      have := HIC.out.len
      have := readyW_len C
      rw [hlp]
      omega)
     have HST := Lib.hid (show ({ readyW C with out := (readyW C).out ++ putL [E] } : WS) = nodeW N D i x s by
      unfold nodeW
      simp only [HCC.out, if_neg HK2.out, if_pos HK3.out, hlp, hEs])
     have hes : ∀ W, Calls Tryz.prog 41 #[.string x.f3] W fun e w' => e = .returned (.string E) ∧ Below W.heap.size W w' := hE ▸ HES.out
     have HES2 := Lib.hid hes
     clear hE hEs hEl hlp hes HES
     go_wp2_with (first | (go_at_call 40; refine (HCL.out _ (HW.out.below (zz2))).mono ?_; rintro e w3 ⟨rfl, ⟨vO3, h3⟩, ht3⟩; rw [HCC.out] at h3; have H3 := Lib.hid h3; have hbx := ht3 _ _ _ (blk_new wr (nodeC x)) (by decide) (by decide) (by decide) (by decide); have hz0 := (blk_cell hbx 0).trans (show _ = some (Value.int .i64 x.f0) from rfl); have hrb := (blk_cell h3.rc 0).trans (show _ = some (Value.func (.func 39) #[] #[.pointer (some ⟨gb, 0, none⟩), .pointer (some ⟨pb, 0, none⟩)]) from rfl); have HBX := Lib.hid hbx; clear h3 ht3 hbx) | (go_at_call 39; refine (ready_c (H3.out.below (zz2)) HCL2.out).mono ?_; rintro e w6 ⟨rfl, h6, ht6⟩; have H6 := Lib.hid h6; have hbx6 := ht6 _ _ _ (blk_below HBX.out (zz2)) (by decide) (by decide) (by decide) (by decide); have hy0 := (blk_cell hbx6 0).trans (show _ = some (Value.int .i64 x.f0) from rfl); have HBX6 := Lib.hid hbx6; clear h6 ht6 hbx6))
     have s1 := (blk_cell H6.out.pc 0).trans (show _ = some (Value.func (.func 37) #[] #[.pointer (some ⟨b, 0, none⟩)]) from rfl)
     have s2 := (blk_cell HBX6.out 3).trans (show _ = some (Value.string x.f3) from rfl)
     go_region_held3 (fun W => W.cell? ⟨pb, 0, none⟩ = some (.func (.func 37) #[] #[.pointer (some ⟨b, 0, none⟩)]) ∧ W.cell? ⟨wr.heap.size, 3, none⟩ = some (.string x.f3)) (first | exact ⟨by assumption, by assumption⟩ | go_keep) (first | (go_at_call 41; refine (HES2.out _).mono ?_; rintro e w4 ⟨rfl, hb4⟩; have hbb : Below w6.heap.size w6 w4 := below_step (zz2) hb4; have H4 := Lib.hid (H6.out.below hbb); have HBX4 := Lib.hid (blk_below HBX6.out hbb); have t1 := (blk_cell H4.out.pc 0).trans (show _ = some (Value.func (.func 37) #[] #[.pointer (some ⟨b, 0, none⟩)]) from rfl); have t2 := (blk_cell HBX4.out 3).trans (show _ = some (Value.string x.f3) from rfl); clear hb4 hbb) | (go_at_call 37; refine (putw_c (l := [E]) (H4.out.below (zz2)) (zz35) (by simp) HBD.out).mono ?_; rintro e w5 ⟨rfl, h5, ht5⟩; have H5 := Lib.hid h5; have hbx5 := (ht5 _ _ _ (blk_below HBX4.out (zz2)) (by decide) (by decide) (by decide) (by decide)); have v1 := (blk_cell h5.pc 0).trans (show _ = some (Value.func (.func 37) #[] #[.pointer (some ⟨b, 0, none⟩)]) from rfl); have v2 := (blk_cell hbx5 3).trans (show _ = some (Value.string x.f3) from rfl); clear h5 ht5 hbx5))
     go_wp2
     go_roundw
     case rel => exact ⟨i + 1, zz33, by first | rfl | go_num, _, _, Lib.hid (HST.out ▸ H5.out), HR2, HI2⟩
     case measure => have := HLT.out; simp [intOf]; omega
    ·have q3 : (x.f0 == 3) = false := by simpa using k3
     have HK3 := Lib.hid k3
     clear k3
     obtain ⟨m0, m1⟩ := HNK.out.1 HK3.out
     obtain ⟨an, hAN, -⟩ := Kd.at_string HN.out x.f1 m0 m1
     subst hAN
     obtain ⟨S, hS⟩ : ∃ S, N.getD x.f1.toNat ⟨#[]⟩ = S := ⟨_, rfl⟩
     have hfive : ∀ (W : World) (vO2 : Value) (s2 : WS), Ww w W b pb gb ob rb tr (.slice (some an) nn cN) (.slice (some ad) n cD) vO2 s2 → W.heap[wr.heap.size]? = some (nodeC x) → _ := fun W vO2 s2 h hb => five HN.out h hb m0 m1 hS
     have HF := Lib.hid hfive
     have p6 : ((0 : Int) ≤ x.f1) = True := eq_true m0
     have p7 : (x.f1 < (nn : Int)) = True := eq_true m1
     have hSs : S.data.toList.length ≤ 1000000000 := by rw [← hS]; exact name_size HOK.out HM.out HK3.out
     have hlp : (putL [(⟨#[60]⟩ : ByteArray), S]) = [60] ++ S.data.toList := by simp [putL]
     have HBD := Lib.hid (show (readyW C).out.length + (putL [(⟨#[60]⟩ : ByteArray), S]).length ≤ 140737488355328 by
      have := HIC.out.len
      have := readyW_len C
      rw [hlp]
      simp only [List.length_append, List.length_cons, List.length_nil]
      omega)
     have HST := Lib.hid (show ({ ({ ({ readyW C with out := (readyW C).out ++ putL [(⟨#[60]⟩ : ByteArray), S] } : WS) with bg := true } : WS) with op := C.op ++ [(i : Int)] } : WS) = nodeW N D i x s by
      unfold nodeW
      simp only [HCC.out, if_neg HK2.out, if_neg HK3.out, hlp, hS]
      rfl)
     clear hfive hS hSs hlp HES
     go_wp2_with (first | (go_at_call 40; refine (HCL.out _ (HW.out.below (zz2))).mono ?_; rintro e w3 ⟨rfl, ⟨vO3, h3⟩, ht3⟩; rw [HCC.out] at h3; have H3 := Lib.hid h3; have hbx := ht3 _ _ _ (blk_new wr (nodeC x)) (by decide) (by decide) (by decide) (by decide); have hz0 := (blk_cell hbx 0).trans (show _ = some (Value.int .i64 x.f0) from rfl); have hrb := (blk_cell h3.rc 0).trans (show _ = some (Value.func (.func 39) #[] #[.pointer (some ⟨gb, 0, none⟩), .pointer (some ⟨pb, 0, none⟩)]) from rfl); have HBX := Lib.hid hbx; clear h3 ht3 hbx) | (go_at_call 39; refine (ready_c (H3.out.below (zz2)) HCL2.out).mono ?_; rintro e w6 ⟨rfl, h6, ht6⟩; have H6 := Lib.hid h6; have hbx6 := ht6 _ _ _ (blk_below HBX.out (zz2)) (by decide) (by decide) (by decide) (by decide); have hy0 := (blk_cell hbx6 0).trans (show _ = some (Value.int .i64 x.f0) from rfl); have HBX6 := Lib.hid hbx6; clear h6 ht6 hbx6))
     obtain ⟨s1, s2, s3, s4, s5⟩ := HF.out w6 _ _ H6.out HBX6.out
     go_region_held3 (fun W => W.cell? ⟨pb, 0, none⟩ = some (.func (.func 37) #[] #[.pointer (some ⟨b, 0, none⟩)]) ∧ W.cell? ⟨tr, 0, none⟩ = some (.slice (some an) nn cN) ∧ W.cell? ⟨wr.heap.size, 1, none⟩ = some (.int .i64 x.f1) ∧ W.cell? ⟨wr.heap.size, 3, none⟩ = some (.string x.f3) ∧ W.cell? (an.add x.f1.toNat) = some (.string S)) (first | exact ⟨by assumption, by assumption, by assumption, by assumption, by assumption⟩ | go_keep) (first | (go_at_call 37; refine (putw_c (l := [(⟨#[60]⟩ : ByteArray), S]) (H6.out.below (zz2)) (zz35) (by simp) HBD.out).mono ?_; rintro e w5 ⟨rfl, h5, ht5⟩; have H5 := Lib.hid h5; obtain ⟨v1, v2, v3, v4, v5⟩ := HF.out w5 _ _ h5 (ht5 _ _ _ (blk_below HBX6.out (zz2)) (by decide) (by decide) (by decide) (by decide)); clear h5 ht5))
     have g0 := blk_frozen H5.out.gc 0
     have g1 := blk_cell H5.out.gc 0
     have H7 := Lib.hid (H5.out.begun true)
     have o0 := blk_frozen H7.out.oc 0
     have o1 := (blk_cell H7.out.oc 0).trans (show _ = some vO3 from rfl)
     have hop := HIC.out.op
     have HOP := Lib.hid (show C.op.length ≤ 1000000 by omega)
     clear hop
     go_wp2_with (refine Ww.list (w0 := w) (ob := ob) H7.out HOP.out (i : Int) (.tmp 68) (.tmp 70) (by rfl) (by rfl) (by rfl) (by first | rfl | exact congrArg (fun n => Value.slice (some ⟨n, 0, none⟩) 1 1) (by simp)) (by rfl) ?_; intro A6 c6 w8 h8 hd8 he8; have H8 := Lib.hid (Eq.mp (congrArg (fun z => Ww w _ b pb gb ob rb tr _ _ _ z) HST.out) h8); clear h8)
     go_roundw
     case rel => exact ⟨i + 1, zz33, by first | rfl | go_num, _, _, H8, HR2, HI2⟩
     case measure => have := HLT.out; simp [intOf]; omega
  ·have hin : i = n := by omega
   subst hin
   have p1 : ((i : Int) < (i : Int)) = False := eq_false (by omega)
   have hsR : s = R := by
    have h := HR.out
    rw [← HDN.out, List.drop_length] at h
    exact h
   subst hsR
   have hcl := fun W (hW : Ww w W b pb gb ob rb tr (.slice AN nn cN) (.slice AD i cD) vO s) => close_n HDN.out HNN.out HN.out HD.out hW HOK.out HI.out.ok (by have := HI.out.len; omega) (by have := HI.out.op; omega) (by omega) (by omega) (-1)
   have HCL := Lib.hid hcl
   clear hcl
   obtain ⟨E, hE⟩ : ∃ E, closeW N D (-1) s.op.length s = E := ⟨_, rfl⟩
   have hEE : endW N D = E := by
    unfold endW
    rw [HR0.out]; exact hE
   have HEE := Lib.hid hEE
   have HE := Lib.hid hE
   have hlenE : ∀ W, Ww w W b pb gb ob rb tr (.slice AN nn cN) (.slice AD i cD) vO E → True := fun _ _ => trivial
   clear hE hEE hlenE
   by_cases hb : 65536 < E.out.length
   ·have p2 : ((65536 : Int) < (E.out.length : Int)) = True := eq_true (by omega)
    have p3 : (65536 < E.out.length) = True := eq_true hb
    have hV : writeV N D = (⟨#[]⟩, 11) := by unfold writeV; rw [if_pos HVV.out, HEE.out, if_pos hb]
    have HV := Lib.hid hV
    clear hV
    go_wp2_with (first | (go_at_call 40; refine (HCL.out _ HW.out).mono ?_; rintro e w3 ⟨rfl, ⟨vO3, h3⟩, ht3⟩; rw [HE.out] at h3; have H3 := Lib.hid h3; clear h3 ht3) | (go_at_call 42; refine (Tryz.Builder_Len _ _ _ _ H3.out.bd).mono ?_; rintro e w4 ⟨rfl, rfl⟩; rw [Lib.byteCells_length]))
    (try rw [Exit.noGoto_ret])
    first | go_ret | go_ret2 | go_ret3
    rw [HV.out]
    exact ⟨rfl, hTR ▸ H3.out.bel⟩
   ·have p2 : ((65536 : Int) < (E.out.length : Int)) = False := eq_false (by omega)
    have p3 : (65536 < E.out.length) = False := eq_false hb
    have hV : writeV N D = (⟨E.out.toArray⟩, 0) := by unfold writeV; rw [if_pos HVV.out, HEE.out, if_neg hb]
    have HV := Lib.hid hV
    clear hV
    go_wp2_with (first | (go_at_call 40; refine (HCL.out _ HW.out).mono ?_; rintro e w3 ⟨rfl, ⟨vO3, h3⟩, ht3⟩; rw [HE.out] at h3; have H3 := Lib.hid h3; clear h3 ht3) | (go_at_call 42; refine (Tryz.Builder_Len _ _ _ _ H3.out.bd).mono ?_; rintro e w4 ⟨rfl, rfl⟩; rw [Lib.byteCells_length]) | (go_at_call 43; refine (Tryz.Builder_String_any _ _ _ _ H3.out.bd H3.out.bel.size).mono ?_; rintro e w5 ⟨rfl, hb5⟩))
    (try rw [Exit.noGoto_ret])
    first | go_ret | go_ret2 | go_ret3
    rw [HV.out]
    exact ⟨rfl, hTR ▸ H3.out.bel.trans hb5⟩
end Go.Proofs.YtlhhhlimjajnlaaGreat.X
end
section
set_option linter.unusedVariables false
set_option linter.unusedSimpArgs false
namespace Go.Proofs.YtlhhhlimjajnlaaGreat.X
open Go.RowKit Go.Proofs.YtlhhhlimjajnlaaGreat Go.Proofs.YtlhhhlimjajnlaaGreat.Q Go.Proofs.YtlhhhlimjajnlaaGreatW.PrintWords Go.Proofs.YtlhhhlimjajnlaaGreatW.PrintLast Go.Proofs.YtlhhhlimjajnlaaGreatW.PrintMore
def smallW (N : List ByteArray) (D : List Nod) : Bool := (D.all fun x => decide (x.f3.size ≤ 1000000000)) && (N.all fun x => decide (x.size ≤ 1000000000))
def canon_Write.f (a0_0 : List ByteArray) (a0_1 : List Nod) : Option (ByteArray × Int) := if smallW a0_0 a0_1 = true then some (writeV a0_0 a0_1) else none
theorem canon_Write.calls (A0_0 : Option Addr) (c0_0 : Nat) (l0_0 : List ByteArray) (A0_1 : Option Addr) (c0_1 : Nat) (l0_1 : List Nod) (r1 : ByteArray) (r2 : Int) (w : World) (hr0_0 : Kd.C Kd.string w A0_0 l0_0.length l0_0) (hc0_0 : l0_0.length ≤ c0_0) (hr0_1 : Kd.C k41 w A0_1 l0_1.length l0_1) (hc0_1 : l0_1.length ≤ c0_1) (h : canon_Write.f l0_0 l0_1 = some (r1, r2)) :
 Calls Tryz.prog 17 #[.agg #[.slice A0_0 l0_0.length c0_0, .slice A0_1 l0_1.length c0_1]] w fun e w' => e = .returned (.tuple #[.string r1, .int .i64 r2]) ∧ Below w.heap.size w w' := by
 unfold canon_Write.f at h
 split at h
 ·rename_i hs
  have h := Option.some.inj h
  unfold smallW at hs
  rw [Bool.and_eq_true, List.all_eq_true, List.all_eq_true] at hs
  have h1 : ∀ x, x ∈ l0_0 → x.size ≤ 1000000000 := fun x hx => of_decide_eq_true (hs.2 x hx)
  have h2 : ∀ x, x ∈ l0_1 → x.f3.size ≤ 1000000000 := fun x hx => of_decide_eq_true (hs.1 x hx)
  have e1 : (writeV l0_0 l0_1).1 = r1 := by rw [h]
  have e2 : (writeV l0_0 l0_1).2 = r2 := by rw [h]
  by_cases hc : checkV l0_0 l0_1 = 0
  ·have := write_ok (cN := c0_0) (cD := c0_1) hr0_0 hr0_1 h1 h2 hc
   unfold WRet at this
   rw [e1, e2] at this
   exact this
  ·have := write_bad (cN := c0_0) (cD := c0_1) hr0_0 hr0_1 h1 h2 hc
   unfold WRet at this
   unfold writeV at e1 e2
   rw [if_neg hc] at e1 e2
   subst e1 e2
   exact this
 ·cases h
end Go.Proofs.YtlhhhlimjajnlaaGreat.X
end
