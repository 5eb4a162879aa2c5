/- Parts of the proof of canonDocs_holds, kept and merged by a program of mine (wip/tools/slim.py) out of my texts: P14i REl -/
import Derived.Test.YtlhhhlimjajnlaaGreatSDc0
import Derived.Deep.RegionHeld3
import Derived.Test.YtlhhhlimjajnlaaGreatSDc4
import Derived.Test.YtlhhhlimjajnlaaGreatSDc38
import Derived.Test.YtlhhhlimjajnlaaGreatSDc9
import Derived.Test.YtlhhhlimjajnlaaGreatSDc24
section
set_option linter.unusedVariables false
set_option linter.unusedSimpArgs false
namespace Go.Proofs.YtlhhhlimjajnlaaGreat.P14
open Go.RowKit Go.Proofs.YtlhhhlimjajnlaaGreat Go.Proofs.YtlhhhlimjajnlaaGreat.Q Go.Proofs.YtlhhhlimjajnlaaGreatW.PrintWords Go.Proofs.YtlhhhlimjajnlaaGreat.X Go.Proofs.YtlhhhlimjajnlaaGreat.Ck Go.Proofs.YtlhhhlimjajnlaaGreat.P11
theorem bl_app (a b : List UInt8) : bytesL a ++ bytesL b = bytesL (a ++ b) := by
 apply ByteArray.ext; apply Array.ext'; simp [bytesL]
theorem bl_size (a : List UInt8) : (bytesL a).size = a.length := by rw [Lib.size_eq]; rfl
theorem range_le (f : Nat → List UInt8) {m : Nat} : ∀ {n : Nat}, m ≤ n → ((List.range m).flatMap f).length ≤ ((List.range n).flatMap f).length
 | 0, h => by rw [show m = 0 from by omega]; exact Nat.le_refl _
 | n + 1, h => by
  by_cases e : m = n + 1
  ·rw [e]; exact Nat.le_refl _
  ·rw [range_one, List.length_append]
   have := range_le f (m := m) (n := n) (by omega)
   omega
section
variable {N : List ByteArray} {D : List Nod}
def Hm (N : List ByteArray) (D : List Nod) (i m : Nat) : List UInt8 := [60] ++ nameW N D (i : Int) ++ (List.range m).flatMap (attK N D i)
def Bm (N : List ByteArray) (D : List Nod) (i m : Nat) : List UInt8 := (List.range m).flatMap (bodK (elP N D) D i)
theorem el_HB (hl : Low D) {i : Nat} (hi : i < D.length) : elP N D i = Hm N D i D.length ++ [62] ++ Bm N D i D.length ++ ([60, 47] ++ nameW N D (i : Int) ++ [62]) := elP_eq hl hi
theorem Hm_one (i m : Nat) : Hm N D i (m + 1) = Hm N D i m ++ attK N D i m := by unfold Hm; rw [range_one, List.append_assoc, List.append_assoc]; simp
theorem Bm_one (i m : Nat) : Bm N D i (m + 1) = Bm N D i m ++ bodK (elP N D) D i m := range_one _ _
theorem Hm_le {i m n : Nat} (h : m ≤ n) : (Hm N D i m).length ≤ (Hm N D i n).length := by
 have := range_le (attK N D i) h
 unfold Hm
 simp only [List.length_append]
 omega
theorem Bm_le {i m n : Nat} (h : m ≤ n) : (Bm N D i m).length ≤ (Bm N D i n).length := range_le _ h
theorem esc_ev (s : ByteArray) (hs : s.size ≤ 4294967296) : Ev (fun k => R1_Escape.f k s) (bytesL (escL s.data.toList)) := evN (s.size + 1) fun k => by
 show R1_Escape.f (k + (s.size + 1)) s = _
 rw [show k + (s.size + 1) = s.size + 1 + k from by omega]; exact ref_escape_f s hs k
theorem getD_in {i : Nat} (hi : i < D.length) : D.getD i nz ∈ D := by rw [List.getD_eq_getElem?_getD, List.getElem?_eq_getElem hi]; exact List.getElem_mem hi
theorem nodesW_inv (h : okN N D) : ∀ (l : List Nod) (i : Nat) (s : WS), D.drop i = l → i + l.length = D.length → WInv D i s → WInv D D.length (nodesW N D l i s)
 | [], i, s, hl, hi, hs => by
  have : i = D.length := by simpa using hi
  rw [← this]; exact hs
 | x :: l, i, s, hl, hi, hs => by
  rw [List.length_cons] at hi
  have hx := drop_one (D := D) (i := i) (by omega)
  rw [hl] at hx
  injection hx with hx1 hx2
  exact nodesW_inv h l (i + 1) _ hx2.symm (by omega) (nodeW_inv h (by omega) hx1.symm hs)
theorem out_len (h : okN N D) : (endW N D).out.length ≤ 9000000000 * D.length := by
 have h0 : WInv D 0 ⟨[], [], false⟩ := ⟨(fun j hj => by cases hj), by simp, by simp⟩
 have h1 := nodesW_inv h D 0 _ rfl (by simp) h0
 have h2 := closeW_inv h (-1) (nodesW N D D 0 ⟨[], [], false⟩).op.length _ h1
 have := h2.len
 unfold endW
 simp only
 omega
end
theorem check_rows {N : List ByteArray} {D : List Nod} (c : checkV N D = 0) : ∃ op, rows (prK D) = some op := by
 have hnr := nodes_rows N.length D
 have hsome : (nodesC N.length D 0 (zeroC D.length)).isSome = true := by
  unfold checkV at c
  split at c
  ·cases c
  ·split at c
   ·cases c
   ·rename_i h1
    cases e : nodesC N.length D 0 (zeroC D.length) with
    | none => rw [e] at h1; exact absurd rfl h1
    | some s => rfl
 rw [hsome, eq_comm, Bool.and_eq_true] at hnr
 exact Option.isSome_iff_exists.1 hnr.2
end Go.Proofs.YtlhhhlimjajnlaaGreat.P14
end
section
set_option linter.unusedVariables false
set_option linter.unusedSimpArgs false
namespace Go.Proofs.YtlhhhlimjajnlaaGreat.X
open Go.RowKit Go.Maps Go.Proofs.YtlhhhlimjajnlaaGreat Go.Proofs.YtlhhhlimjajnlaaGreat.Q Go.Proofs.YtlhhhlimjajnlaaGreat.P11 Go.Proofs.YtlhhhlimjajnlaaGreat.P14 Go.Proofs.YtlhhhlimjajnlaaGreat.Ck Go.Proofs.YtlhhhlimjajnlaaGreatW.PrintWords Go.Proofs.YtlhhhlimjajnlaaGreatW.PrintLast Go.Proofs.YtlhhhlimjajnlaaGreatW.PrintMore
attribute [local go_sem] max2_int min2_int max_two min_two   
theorem refesc_c (s : ByteArray) (hs : s.size ≤ 1000000000) (W : World) : Calls Tryz.prog 72 #[.string s] W fun e w' => e = .returned (.string (bytesL (escL s.data.toList))) ∧ Drawn0 W w' := by
 obtain ⟨K, hK⟩ := esc_ev s (by omega)
 exact R1_Escape.calls K s _ W (hK K (Nat.le_refl _))
theorem five_cat (H S E : ByteArray) (h : H.size + S.size + E.size ≤ 100000000000000) : ((9223372036854775807 < H.size + 1) = False) ∧ ((9223372036854775807 < (H ++ (⟨#[32]⟩ : ByteArray)).size + S.size) = False) ∧ ((9223372036854775807 < (H ++ (⟨#[32]⟩ : ByteArray) ++ S).size + 2) = False) ∧ ((9223372036854775807 < (H ++ (⟨#[32]⟩ : ByteArray) ++ S ++ (⟨#[61, 34]⟩ : ByteArray)).size + E.size) = False) ∧ ((9223372036854775807 < (H ++ (⟨#[32]⟩ : ByteArray) ++ S ++ (⟨#[61, 34]⟩ : ByteArray) ++ E).size + 1) = False) ∧ ((9223372036854775807 < H.size + 1 + S.size) = False) ∧ ((9223372036854775807 < H.size + 1 + S.size + 2) = False) ∧ ((9223372036854775807 < H.size + 1 + S.size + 2 + E.size) = False) ∧ ((9223372036854775807 < H.size + 1 + S.size + 2 + E.size + 1) = False) := by
 have e1 : (⟨#[32]⟩ : ByteArray).size = 1 := rfl
 have e2 : (⟨#[61, 34]⟩ : ByteArray).size = 2 := rfl
 simp only [ByteArray.size_append, e1, e2]
 refine ⟨?_, ?_, ?_, ?_, ?_, ?_, ?_, ?_, ?_⟩ <;> exact eq_false (by omega)
set_option maxHeartbeats 8000000 in
set_option maxRecDepth 100000 in
theorem element_c {N : List ByteArray} {D : List Nod} (hok : okN N D) (hl : Low D) (hb : D.length ≤ 5000) {w0 : World} {AN AD : Option Addr} {cN cD nn n : Nat} (hnn : N.length = nn) (hnD : D.length = n) (hN : Kd.C Kd.string w0 AN nn N) (hD : Kd.C k41 w0 AD n D) (d : Nat) : ∀ (i : Nat) (w : World), Below w0.heap.size w0 w → D.length ≤ i + d → i < D.length → ¬ (D.getD i nz).f0 = 3 → (elP N D i).length ≤ 100000000000000 →
 Calls Tryz.prog 44 #[.agg #[.slice AN nn cN, .slice AD n cD], .int .i64 i] w fun e w' => e = .returned (.string (bytesL (elP N D i))) ∧ Below w.heap.size w w' := by
 induction d with
 | zero => intro i w hw hd hi; omega
 | succ d ih =>
  intro i w hw hd hi h3 hs
  have hwN := Kd.C_below hN hw
  have hwD := Kd.C_below hD hw
  obtain ⟨ad, hA, r0, r1, r2, r3⟩ := at_T41 hwD (i : Int) (by omega) (by omega)
  have hrd : rd_T41 D (i : Int) = D.getD i nz := rfl
  rw [hrd, Int.toNat_natCast] at r0 r1 r2 r3
  subst hA
  obtain ⟨m0, m1⟩ := hok.2.2 _ (getD_in hi) h3
  rw [hnn] at m1
  obtain ⟨an, hAN, hre⟩ := Kd.at_string hwN (D.getD i nz).f1 m0 m1
  subst hAN
  have hT := congrArg List.length (el_HB (N := N) hl hi)
  simp only [List.length_append, List.length_cons, List.length_nil] at hT
  have hres := el_HB (N := N) hl hi
  have hH0 : Hm N D i (i + 1) = [60] ++ nameW N D (i : Int) := by
   unfold Hm
   rw [body_none (fun k hk => by
    unfold attK
    rw [if_neg]
    rintro ⟨e, -⟩
    have := hl k (by omega)
    omega), List.append_nil]
  have hB0 : Bm N D i (i + 1) = [] := body_none fun k hk => by
   unfold bodK
   rw [if_neg]
   rintro ⟨e, -⟩
   have := hl k (by omega)
   omega
  obtain ⟨nm, hnm⟩ : ∃ nm, nameW N D (i : Int) = nm := ⟨_, rfl⟩
  have hre : w.cell? (an.add (D.getD i nz).f1.toNat) = some (.string (bytesL nm)) := by rw [← hnm]; exact hre
  rw [hnm] at hres hT hH0
  obtain ⟨x0, hx0⟩ : ∃ x0, D.getD i nz = x0 := ⟨_, rfl⟩
  rw [hx0] at r1 hre m0 m1
  clear hrd r0 r2 r3 hx0
  have HRES := Lib.hid hres
  have HT := Lib.hid hT
  have HH0 := Lib.hid hH0
  have HB0 := Lib.hid hB0
  have HW := Lib.hid hw
  have HD := Lib.hid hD
  have HN := Lib.hid hN
  have HWN := Lib.hid hwN
  have HWD := Lib.hid hwD
  have HOK := Lib.hid hok
  have HL := Lib.hid hl
  have HIH := Lib.hid ih
  have HIN := Lib.hid hi
  have HS := Lib.hid hs
  have HND := Lib.hid hnD
  have HNN := Lib.hid hnn
  clear hres hT hH0 hB0 hwN hwD ih hs
  have p0 : ((0 : Int) ≤ (i : Int)) = True := eq_true (by omega)
  have p1 : ((i : Int) < (n : Int)) = True := eq_true (by omega)
  have p2 : ((0 : Int) ≤ x0.f1) = True := eq_true m0
  have p3 : (x0.f1 < (nn : Int)) = True := eq_true m1
  go_enter Tryz.func44, Tryz.ntmps44
  go_wp2
  have hbx := blk_new w (.cells #[.slice (some an) nn cN, .slice (some ad) n cD] 27)
  have hbel : Below w.heap.size w (w.alloc (.cells #[.slice (some an) nn cN, .slice (some ad) n cD] 27)) := below_alloc (Below.refl _ _) _
  generalize w.alloc (.cells #[.slice (some an) nn cN, .slice (some ad) n cD] 27) = w1 at hbx hbel ⊢
  have t0 := (blk_cell hbx 0).trans (show _ = some (Value.slice (some an) nn cN) from rfl)
  have t1 := (blk_cell hbx 1).trans (show _ = some (Value.slice (some ad) n cD) from rfl)
  have s1 := (hbel.cell (World.block_lt_of_cell? w _ r1)).trans r1
  have s2 := (hbel.cell (World.block_lt_of_cell? w _ hre)).trans hre
  have HBX := Lib.hid hbx
  have HBL := Lib.hid hbel
  clear hbx hbel r1 hre
  go_region
  have hz1 : (bytesL nm).size ≤ 100000000000000 := by have := HT.out; have := HS.out; rw [bl_size]; omega
  have e1 : IntKind.i64.wrap ((i : Int) + 1) = ((i + 1 : Nat) : Int) := zz12
  go_wp2
  go_loopw [6, 7, 8] (fun th tb tm wr => ∃ m : Nat, i < m ∧ m ≤ n ∧ tm = .int .i64 m ∧ th = .string (bytesL (Hm N D i m)) ∧ tb = .string (bytesL (Bm N D i m)) ∧ Hid (wr.heap[w.heap.size]? = some (.cells #[.slice (some an) nn cN, .slice (some ad) n cD] 27 (0, 0))) ∧ Hid (Below w.heap.size w wr)) (fun th tb tm wr => n - (intOf tm).toNat)
  case atStart => exact ⟨i + 1, by omega, by omega, by first | rfl | go_num, by rw [HH0.out, ← bl_app]; rfl, by rw [HB0.out]; rfl, HBX, Lib.hid (by apply below_drew; exact HBL.out)⟩
  case round =>
   clear t0 t1 s1 s2 HBX HBL
   obtain ⟨m, him, hmn, rfl, rfl, rfl, HBX, HBL⟩ := hrel
   have hwr : Below w0.heap.size w0 wr := below_step HW.out HBL.out
   have t0 := (blk_cell HBX.out 0).trans (show _ = some (Value.slice (some an) nn cN) from rfl)
   have t1 := (blk_cell HBX.out 1).trans (show _ = some (Value.slice (some ad) n cD) from rfl)
   by_cases hlt : m < n
   ·have hmD : m < D.length := by have := HND.out; omega
    obtain ⟨ad', hA', r0, r1, r2, r3⟩ := at_T41 (Kd.C_below HD.out hwr) (m : Int) (by omega) (by omega)
    obtain rfl := Option.some.inj hA'
    have hrd : rd_T41 D (m : Int) = D.getD m nz := rfl
    rw [hrd, Int.toNat_natCast] at r0 r1 r2 r3
    obtain ⟨x, hx⟩ : ∃ x, D.getD m nz = x := ⟨_, rfl⟩
    have hmem : x ∈ D := hx ▸ getD_in hmD
    rw [hx] at r0 r1 r2 r3
    have hxs := HOK.out.2.1 x hmem
    have p4 : ((0 : Int) ≤ (m : Int)) = True := eq_true (by omega)
    have p5 : ((m : Int) < (n : Int)) = True := eq_true (by omega)
    have e2 : IntKind.i64.wrap ((m : Int) + 1) = ((m + 1 : Nat) : Int) := zz12
    have HX := Lib.hid hx
    have HXS := Lib.hid hxs
    have HM := Lib.hid hmem
    have HLT := Lib.hid hlt
    have hH1 := Hm_one (N := N) (D := D) i m
    have hB1 := Bm_one (N := N) (D := D) i m
    have hHle := Hm_le (N := N) (D := D) (i := i) (m := m + 1) (n := D.length) (by omega)
    have hBle := Bm_le (N := N) (D := D) (i := i) (m := m + 1) (n := D.length) (by omega)
    rw [hH1, List.length_append] at hHle
    rw [hB1, List.length_append] at hBle
    have HH1 := Lib.hid hH1
    have HB1 := Lib.hid hB1
    have HHL := Lib.hid hHle
    have HBLE := Lib.hid hBle
    clear hx hxs hmem hmD hrd hH1 hB1 hHle hBle hA'
    by_cases c : x.f2 = (i : Int)
    case neg =>
     have q1 : (x.f2 != (i : Int)) = true := by simpa using c
     have HC := Lib.hid c
     clear c
     go_wp2
     go_roundw
     case rel => exact ⟨m + 1, by omega, zz23, by first | rfl | go_num, by rw [HH1.out]; unfold attK; rw [HX.out, if_neg (fun e => HC.out e.1), List.append_nil], by rw [HB1.out]; unfold bodK; rw [HX.out, if_neg (fun e => HC.out e.1), List.append_nil], Lib.hid (blk_alloc HBX.out _), Lib.hid (below_alloc HBL.out _)⟩
     case measure => have := HLT.out; simp [intOf]; omega
    have q1 : (x.f2 != (i : Int)) = false := by rw [c]; simp
    have HC := Lib.hid c
    clear c
    by_cases k2 : x.f0 = 2
    ·have q2 : (x.f0 == 2) = true := by rw [k2]; rfl
     have HK2 := Lib.hid k2
     clear k2
     obtain ⟨S, hS⟩ : ∃ S, N.getD x.f1.toNat ⟨#[]⟩ = S := ⟨_, rfl⟩
     obtain ⟨E, hE⟩ : ∃ E, bytesL (escL x.f3.data.toList) = E := ⟨_, rfl⟩
     have hes : ∀ W, Calls Tryz.prog 72 #[.string x.f3] W fun e w' => e = .returned (.string E) ∧ Drawn0 W w' := fun W => hE ▸ refesc_c x.f3 HXS.out W
     have HES := Lib.hid hes
     have hat : attK N D i m = [32] ++ S.data.toList ++ [61, 34] ++ escL x.f3.data.toList ++ [34] := by unfold attK; rw [HX.out, if_pos ⟨HC.out, HK2.out⟩]; unfold attW; rw [hS]
     have heq : bytesL (Hm N D i m) ++ ⟨#[32]⟩ ++ S ++ ⟨#[61, 34]⟩ ++ E ++ ⟨#[34]⟩ = bytesL (Hm N D i (m + 1)) := by
      rw [HH1.out, hat, ← hE]
      show bytesL _ ++ bytesL [32] ++ bytesL S.data.toList ++ bytesL [61, 34] ++ bytesL _ ++ bytesL [34] = _
      simp only [bl_app, List.append_assoc]
     have HEQ := Lib.hid heq
     have hbo : Bm N D i (m + 1) = Bm N D i m := by rw [HB1.out]; unfold bodK; rw [HX.out, if_neg (fun e => e.2 HK2.out), List.append_nil]
     have HBO := Lib.hid hbo
     have hz4 : (bytesL (Hm N D i m)).size + S.size + E.size ≤ 100000000000000 := by
      have h1 := HHL.out
      have h2 := HT.out
      have h3 := HS.out
      rw [hat] at h1
      simp only [List.length_append] at h1
      rw [← hE, bl_size, bl_size, Lib.size_eq S]; omega
     obtain ⟨c1, c2, c3, c4, c5, c6, c7, c8, c9⟩ := five_cat (bytesL (Hm N D i m)) S E hz4
     obtain ⟨m0, m1⟩ := HOK.out.2.2 x HM.out (by rw [HK2.out]; decide)
     rw [HNN.out] at m1
     have p6 : ((0 : Int) ≤ x.f1) = True := eq_true m0
     have p7 : (x.f1 < (nn : Int)) = True := eq_true m1
     go_wp2
     have hnx := blk_new wr (.cells #[.int .i64 x.f0, .int .i64 x.f1, .int .i64 x.f2, .string x.f3] 41)
     have hb2 := blk_alloc HBX.out (.cells #[.int .i64 x.f0, .int .i64 x.f1, .int .i64 x.f2, .string x.f3] 41)
     have hbel2 : Below w.heap.size w (wr.alloc (.cells #[.int .i64 x.f0, .int .i64 x.f1, .int .i64 x.f2, .string x.f3] 41)) := below_alloc HBL.out _
     obtain ⟨an', hAN', hre⟩ := Kd.at_string (Kd.C_below HN.out (below_step HW.out hbel2)) x.f1 m0 m1
     obtain rfl := Option.some.inj hAN'
     have s4 : (wr.alloc (.cells #[.int .i64 x.f0, .int .i64 x.f1, .int .i64 x.f2, .string x.f3] 41)).cell? (an.add x.f1.toNat) = some (.string S) := hS ▸ hre
     generalize wr.alloc (.cells #[.int .i64 x.f0, .int .i64 x.f1, .int .i64 x.f2, .string x.f3] 41) = w2 at hnx hb2 hbel2 s4 ⊢
     have s1 := (blk_cell hb2 0).trans (show _ = some (Value.slice (some an) nn cN) from rfl)
     have s2 := (blk_cell hnx 1).trans (show _ = some (Value.int .i64 x.f1) from rfl)
     have s3 := (blk_cell hnx 3).trans (show _ = some (Value.string x.f3) from rfl)
     have HB2 := Lib.hid hb2
     have HBEL2 := Lib.hid hbel2
     clear hb2 hbel2 hnx hre hat heq hbo hes hE hS hAN'
     go_region_held3 (fun W => W.cell? ⟨w.heap.size, 0, none⟩ = some (.slice (some an) nn cN) ∧ W.cell? ⟨wr.heap.size, 1, none⟩ = some (.int .i64 x.f1) ∧ W.cell? ⟨wr.heap.size, 3, none⟩ = some (.string x.f3) ∧ W.cell? (an.add x.f1.toNat) = some (.string S)) (first | exact ⟨by assumption, by assumption, by assumption, by assumption⟩ | go_keep) (first | (go_at_call 72; refine (HES.out _).mono ?_; rintro e w4 ⟨rfl, ⟨nd, rfl⟩⟩))
     go_wp2
     go_roundw
     case rel => exact ⟨m + 1, by omega, zz23, by first | rfl | go_num, by rw [← HEQ.out], by rw [HBO.out], Lib.hid (by repeat (with_reducible first | exact HB2.out | apply blk_drewN | apply blk_drew)), Lib.hid (by repeat (with_reducible first | exact HBEL2.out | apply pw_below_drewN | apply below_drew))⟩
     case measure => have := HLT.out; simp [intOf]; omega
    have q2 : (x.f0 == 2) = false := by simpa using k2
    have hho : Hm N D i (m + 1) = Hm N D i m := by rw [HH1.out]; unfold attK; rw [HX.out, if_neg (fun e => k2 e.2), List.append_nil]
    have HHO := Lib.hid hho
    have HK2 := Lib.hid k2
    clear k2 hho
    by_cases k3 : x.f0 = 3
    ·have q3 : (x.f0 == 3) = true := by rw [k3]; rfl
     have hbo : Bm N D i (m + 1) = Bm N D i m ++ escL x.f3.data.toList := by rw [HB1.out]; unfold bodK; rw [HX.out, if_pos ⟨HC.out, HK2.out⟩, if_pos k3]
     obtain ⟨E, hE⟩ : ∃ E, bytesL (escL x.f3.data.toList) = E := ⟨_, rfl⟩
     have hes : ∀ W, Calls Tryz.prog 72 #[.string x.f3] W fun e w' => e = .returned (.string E) ∧ Drawn0 W w' := fun W => hE ▸ refesc_c x.f3 HXS.out W
     have HES := Lib.hid hes
     have HEQ := Lib.hid (show bytesL (Bm N D i m) ++ E = bytesL (Bm N D i (m + 1)) by rw [hbo, ← hE, bl_app])
     have hz4 : (bytesL (Bm N D i m)).size + E.size ≤ 100000000000000 := by
      have h1 := HBLE.out
      have h2 := HT.out
      have h3 := HS.out
      rw [← hE, bl_size, bl_size]
      have := hbo.symm.trans HB1.out
      have := List.append_cancel_left this
      rw [← this] at h1
      omega
     clear hbo hes hE k3
     go_wp2_with (go_at_call 72; refine (HES.out _).mono ?_; rintro e w4 ⟨rfl, ⟨nd, rfl⟩⟩)
     go_roundw
     case rel => exact ⟨m + 1, by omega, zz23, by first | rfl | go_num, by rw [HHO.out], by rw [← HEQ.out], Lib.hid (by repeat (with_reducible first | exact blk_alloc HBX.out _ | apply blk_drewN | apply blk_drew)), Lib.hid (by repeat (with_reducible first | exact below_alloc HBL.out _ | apply pw_below_drewN | apply below_drew))⟩
     case measure => have := HLT.out; simp [intOf]; omega
    ·have q3 : (x.f0 == 3) = false := by simpa using k3
     have hbo : Bm N D i (m + 1) = Bm N D i m ++ elP N D m := by rw [HB1.out]; unfold bodK; rw [HX.out, if_pos ⟨HC.out, HK2.out⟩, if_neg k3]
     have hz5 : (Bm N D i m).length + (elP N D m).length ≤ 100000000000000 := by
      have h1 := HBLE.out
      have h2 := HT.out
      have h3 := HS.out
      have := List.append_cancel_left (hbo.symm.trans HB1.out)
      rw [← this] at h1
      omega
     obtain ⟨E, hE⟩ : ∃ E, bytesL (elP N D m) = E := ⟨_, rfl⟩
     have hel := HIH.out m (wr.alloc (.cells #[.int .i64 x.f0, .int .i64 x.f1, .int .i64 x.f2, .string x.f3] 41)) (below_alloc hwr _) (by have := HND.out; omega) (by have := HND.out; omega) (by rw [HX.out]; exact k3) (by omega)
     rw [hE] at hel
     have HEL := Lib.hid hel
     have HEQ := Lib.hid (show bytesL (Bm N D i m) ++ E = bytesL (Bm N D i (m + 1)) by rw [hbo, ← hE, bl_app])
     have hz4 : (bytesL (Bm N D i m)).size + E.size ≤ 100000000000000 := by rw [← hE, bl_size, bl_size]; exact hz5
     have u0 := (blk_cell (blk_alloc HBX.out (.cells #[.int .i64 x.f0, .int .i64 x.f1, .int .i64 x.f2, .string x.f3] 41)) 0).trans (show _ = some (Value.slice (some an) nn cN) from rfl)
     have u1 := (blk_cell (blk_alloc HBX.out (.cells #[.int .i64 x.f0, .int .i64 x.f1, .int .i64 x.f2, .string x.f3] 41)) 1).trans (show _ = some (Value.slice (some ad) n cD) from rfl)
     clear hbo hel hE k3 hz5
     go_wp2_with (go_at_call 44; refine HEL.out.mono ?_; rintro e w4 ⟨rfl, hb4⟩; have HB4 := Lib.hid hb4; clear hb4)
     go_roundw
     case rel => exact ⟨m + 1, by omega, zz23, by first | rfl | go_num, by rw [HHO.out], by rw [← HEQ.out], Lib.hid (blk_below (blk_alloc HBX.out _) HB4.out), Lib.hid (below_step (below_alloc HBL.out _) HB4.out)⟩
     case measure => have := HLT.out; simp [intOf]; omega
   ·have hmn' : m = n := by omega
    subst hmn'
    have hres := HRES.out
    have hTl := HT.out
    have hSl := HS.out
    rw [HND.out] at hres hTl
    have p5 : ((m : Int) < (m : Int)) = False := eq_false (by omega)
    have hz4 : (bytesL (Hm N D i m)).size + (bytesL (Bm N D i m)).size + (bytesL nm).size ≤ 100000000000000 := by rw [bl_size, bl_size, bl_size]; omega
    have HEQ := Lib.hid (show bytesL (Hm N D i m) ++ ⟨#[62]⟩ ++ bytesL (Bm N D i m) ++ ⟨#[60, 47]⟩ ++ bytesL nm ++ ⟨#[62]⟩ = bytesL (elP N D i) by
     rw [hres]
     show bytesL _ ++ bytesL [62] ++ bytesL _ ++ bytesL [60, 47] ++ bytesL nm ++ bytesL [62] = _
     simp only [bl_app, List.append_assoc])
    clear hres hTl hSl
    go_wp2
    go_ret
    exact ⟨by rw [← HEQ.out]; rfl, HBL.out⟩
end Go.Proofs.YtlhhhlimjajnlaaGreat.X
end
