/- Parts of the proof of canonSpoilt_holds, kept and merged by a program of mine (wip/tools/slim.py) out of my texts: ParE CanX CanY ParF ParG ParH -/
import Derived.Test.YtlhhhlimjajnlaaGreatSSp0
import Derived.Maps.Own
import Derived.Maps.OwnSet
import Derived.Maps.Views
import Derived.Maps.Keyed
import Derived.StringKeys
import Derived.Test.YtlhhhlimjajnlaaGreatSSp11
import Derived.Test.YtlhhhlimjajnlaaGreatSSp9
import Derived.Test.YtlhhhlimjajnlaaGreatSSp7
section
set_option linter.unusedVariables false
set_option linter.unusedSimpArgs false
namespace Go.Proofs.YtlhhhlimjajnlaaGreat.X
open Go.RowKit Go.Maps Go.Proofs.YtlhhhlimjajnlaaGreat Go.Proofs.YtlhhhlimjajnlaaGreat.Q Go.Proofs.YtlhhhlimjajnlaaGreatW.PrintWords Go.Proofs.YtlhhhlimjajnlaaGreatW.PrintLast Go.Proofs.YtlhhhlimjajnlaaGreatW.PrintMore
attribute [local go_sem] max2_int min2_int max_two min_two   
noncomputable abbrev RI : Value → Option (DataW Unit × List MemPlace) := plainElem Tryz.prog 3
theorem KS : Keyed Tryz.prog 9 := string_keyed Tryz.underlying9
set_option maxHeartbeats 4000000 in
set_option maxRecDepth 100000 in
theorem do1_c {w : World} {g nb bb mb cnt i : Nat} {D : DataW Unit} {gn n2 c2 : Nat} {S : ByteArray} (h1 : w.cell? ⟨nb, 0, none⟩ = some (.map (some mb))) (h2 : w.cell? ⟨bb, 0, none⟩ = some (.pointer (some ⟨g, 0, none⟩)))
 (h3 : w.cell? ⟨g, 1, none⟩ = some (.slice (some ⟨gn, 0, none⟩) n2 c2)) (hi : i < n2) (h4 : w.cell? ⟨gn, i, none⟩ = some (.string S)) (hs : S.size ≤ maxLen) (hm : w.ownsMap Tryz.prog 9 RI mb cnt D) (hc : cnt < maxLen) :
 Calls Tryz.prog 61 #[.int .i64 i, .pointer (some ⟨nb, 0, none⟩), .pointer (some ⟨bb, 0, none⟩)] w fun e w' => e = .returned (.tuple #[]) ∧ w'.ownsMap Tryz.prog 9 RI mb (cnt + 1) (D.put (.string S.data.toList) (.lit (.int .i64 0))) ∧ w.drew.grownBy w' (some mb) := by
 have hkey : keyOf Tryz.prog 9 (.string S) = some (.string S.data.toList) := WideMaps.keyOf_string_mk (P := Tryz.prog) Tryz.underlying9 hs
 have hup : ∃ w', (Instr.mapUpdate 95 (.map (some mb)) (.string S) (.int .i64 0)).run Tryz.prog w.drew = .ok () w' ∧ w'.ownsMap Tryz.prog 9 RI mb (cnt + 1) (D.put (.string S.data.toList) (.lit (.int .i64 0))) ∧ w.drew.grownBy w' (some mb) :=
  World.ownsMap.update (show w.drew.ownsMap Tryz.prog 9 RI mb cnt D from hm) KS Tryz.underlying95 hc hkey (plainElem_int Tryz.underlying3 (by decide))
 obtain ⟨w2, hrun, ho, hg⟩ := hup
 have HO := Lib.hid ho
 have HG := Lib.hid hg
 clear ho hg hm
 have p0 : ((0 : Int) ≤ (i : Int)) = True := eq_true (by omega)
 have p1 : ((i : Int) < (n2 : Int)) = True := eq_true (by omega)
 go_enter Tryz.func61, Tryz.ntmps61
 go_wp2
 go_region
 all_goals
  first | go_end0 | go_ret | ((try simp only [Exit.inBlock, Exit.then]); refine bodyPost_ret (results_none rfl _ _ _) rfl ?_)
  exact ⟨rfl, HO.out, HG.out⟩
set_option maxHeartbeats 8000000 in
set_option maxRecDepth 100000 in
theorem do3_c {w : World} {g nb bb mb cnt i : Nat} {D : DataW Unit} {gn n2 c2 ga n1 c1 : Nat} {S : ByteArray} {y z : Int} (h1 : w.cell? ⟨nb, 0, none⟩ = some (.map (some mb))) (h2 : w.cell? ⟨bb, 0, none⟩ = some (.pointer (some ⟨g, 0, none⟩)))
 (h3 : w.cell? ⟨g, 1, none⟩ = some (.slice (some ⟨gn, 0, none⟩) n2 c2)) (hi : i < n2) (h4 : w.cell? ⟨gn, i, none⟩ = some (.string S)) (hs : S.size ≤ maxLen) (hm : w.ownsMap Tryz.prog 9 RI mb cnt D)
 (h5 : w.cell? ⟨g, 0, none⟩ = some (.slice (some ⟨ga, 0, none⟩) n1 c1)) (hi1 : i < n1) (h6 : w.cell? ⟨ga, i * 4 + 1, none⟩ = some (.int .i64 y)) (h7 : w.frozen? ⟨ga, i * 4 + 1, none⟩ = false)
 (hz : ∀ d : DataW Unit, D.atKey (.string S.data.toList) d = .lit (.int .i64 z)) :
 Calls Tryz.prog 64 #[.int .i64 i, .pointer (some ⟨nb, 0, none⟩), .pointer (some ⟨bb, 0, none⟩)] w fun e w' => e = .returned (.tuple #[]) ∧ ∃ n, w' = (w.drewN n).setCell ⟨ga, i * 4 + 1, none⟩ (.int .i64 z) := by
 have hkey : keyOf Tryz.prog 9 (.string S) = some (.string S.data.toList) := WideMaps.keyOf_string_mk (P := Tryz.prog) Tryz.underlying9 hs
 obtain ⟨c, hrun, hat, -⟩ := World.ownsMap.lookup_int (w := w.drew) (show w.drew.ownsMap Tryz.prog 9 RI mb cnt D from hm) KS Tryz.underlying95 Tryz.underlying3 (Tryz.zeroValue3 _) hkey
 have hcz : c = z := by
  rw [hz] at hat
  injection hat with hat; injection hat with _ hat
  exact hat.symm
 subst hcz
 clear hat hz hm
 have p0 : ((0 : Int) ≤ (i : Int)) = True := eq_true (by omega)
 have p1 : ((i : Int) < (n2 : Int)) = True := eq_true (by omega)
 have p2 : ((i : Int) < (n1 : Int)) = True := eq_true (by omega)
 go_enter Tryz.func64, Tryz.ntmps64
 go_wp2
 go_region
 all_goals
  first | go_end0 | go_ret | ((try simp only [Exit.inBlock, Exit.then]); refine bodyPost_ret (results_none rfl _ _ _) rfl ?_)
  exact ⟨rfl, 1, rfl⟩
end Go.Proofs.YtlhhhlimjajnlaaGreat.X
end
section
set_option linter.unusedVariables false
set_option linter.unusedSimpArgs false
namespace Go.Proofs.YtlhhhlimjajnlaaGreat.X
open Go.RowKit Go.Proofs.YtlhhhlimjajnlaaGreat Go.Proofs.YtlhhhlimjajnlaaGreat.Q Go.Proofs.YtlhhhlimjajnlaaGreatW.PrintWords Go.Proofs.YtlhhhlimjajnlaaGreatW.PrintLast Go.Proofs.YtlhhhlimjajnlaaGreatW.PrintMore
attribute [local go_sem] max2_int min2_int max_two min_two   
def putL (l : List ByteArray) : List UInt8 := (l.map fun s => s.data.toList).flatten
theorem putL_take (l : List ByteArray) (k : Nat) (h : k < l.length) : putL (l.take (k + 1)) = putL (l.take k) ++ (l.getD k ⟨#[]⟩).data.toList := by
 unfold putL
 rw [List.take_add_one, List.map_append, List.flatten_append, List.getD_eq_getElem?_getD, List.getElem?_eq_getElem h]
 simp
def scells (l : List ByteArray) : Array Value := (l.map Value.string).toArray
abbrev IsB (B b : Nat) (out : List UInt8) (w : World) : Prop := Lib.IsBuilder 65 5 B b (Lib.byteCells out) w
theorem byteCells_app (a b : List UInt8) : Lib.byteCells (a ++ b) = Lib.byteCells a ++ Lib.byteCells b := by simp [Lib.byteCells]
theorem strCells_of (s : ByteArray) : Lib.strCells s = Lib.byteCells s.data.toList := by simp [Lib.byteCells, Lib.strCells]
set_option maxHeartbeats 8000000 in
set_option maxRecDepth 100000 in
theorem put_w {w : World} {B b p c : Nat} {out : List UInt8} {l : List ByteArray} (h : IsB B b out w) (hB : B ≤ w.heap.size) (hp : w.heap[p]? = some (.cells (scells l) 9 (0, 0))) (hl : l.length ≤ 1000) (hlen : ∀ k, k ≤ l.length → out.length + (putL (l.take k)).length ≤ 140737488355328) :
 Calls Tryz.prog 37 #[.slice (some ⟨p, 0, none⟩) l.length c, .pointer (some ⟨b, 0, none⟩)] w fun e w' => e = .returned (.tuple #[]) ∧ IsB B b (out ++ putL l) w' ∧ Below B w w' ∧ StayS w w' := by
 obtain ⟨n, hn⟩ : ∃ n, l.length = n := ⟨_, rfl⟩
 have HL := Lib.hid hlen
 have HP := Lib.hid hp
 have HS := Lib.hid (show IsB B b (out ++ putL (l.take 0)) w from by simpa [putL] using h)
 rw [hn] at hl HL ⊢
 clear h hlen hp
 go_enter Tryz.func37, Tryz.ntmps37
 go_wp2
 go_loopw [7] (fun t wr => ∃ k : Nat, k ≤ n ∧ t = .int .i64 k ∧ Hid (IsB B b (out ++ putL (l.take k)) wr) ∧ Hid (Below B w wr) ∧ Hid (StayS w wr)) (fun t wr => n - (intOf t).toNat)
 case atStart => exact ⟨0, Nat.zero_le _, rfl, HS, Lib.hid (Below.refl _ _), Lib.hid (StayS.refl _)⟩
 case round =>
  clear HS
  obtain ⟨k, hk, rfl, HK, HW, HT⟩ := hrel
  by_cases hlt : k < n
  ·have hkl : k < l.length := by omega
   have hq := HT.out p 9 _ HP.out (by decide) (by decide)
   have hr : wr.cell? ⟨p, k, none⟩ = some (.string (l.getD k ⟨#[]⟩)) := by
    rw [blk_cell hq k]
    unfold scells
    rw [List.getElem?_toArray, List.getElem?_map, List.getElem?_eq_getElem hkl, List.getD_eq_getElem?_getD, List.getElem?_eq_getElem hkl]; rfl
   have hnext := putL_take l k hkl
   obtain ⟨S, hS⟩ : ∃ S : ByteArray, l.getD k ⟨#[]⟩ = S := ⟨_, rfl⟩
   rw [hS] at hr hnext
   have HN := Lib.hid hnext
   have hL1 := HL.out (k + 1) (by omega)
   have p0 : ((0 : Int) ≤ (k : Int)) = True := eq_true (by omega)
   have p1 : ((k : Int) < (n : Int)) = True := eq_true (by omega)
   have e1 : IntKind.i64.wrap ((k : Int) + 1) = ((k + 1 : Nat) : Int) := zz15
   have hb1 : (Lib.byteCells (out ++ putL (l.take k))).length + S.size ≤ 140737488355328 := by
    rw [hnext, List.length_append] at hL1
    rw [Lib.byteCells_length, List.length_append, Lib.size_eq]; omega
   have HB1 := Lib.hid hb1
   have HBW := Lib.hid (Nat.le_trans hB HW.out.size)
   clear hnext hL1 hb1 hq hS
   go_wp2_with (go_at_call 38; refine (writeStringF B b _ S wr HK.out HB1.out HBW.out).mono ?_; rintro e w1 ⟨rfl, h1, hb1, hs1⟩; have H1 := Lib.hid h1; have HB2 := Lib.hid hb1; have HS1 := Lib.hid hs1; clear h1 hb1 hs1)
   go_roundw
   case rel => exact ⟨k + 1, by omega, by first | rfl | go_num, Lib.hid (by unfold IsB; rw [HN.out, ← List.append_assoc, byteCells_app, ← strCells_of]; exact .inr H1.out), Lib.hid (HW.out.trans HB2.out), Lib.hid (HT.out.trans HS1.out)⟩
   case measure => simp [intOf]; omega
  ·have hkn : k = n := by omega
   subst hkn
   have p1 : ((k : Int) < (k : Int)) = False := eq_false (by omega)
   have HK2 := Lib.hid (show IsB B b (out ++ putL l) wr from by have := HK.out; rwa [List.take_of_length_le (by omega)] at this)
   clear HK
   go_wp2
   first | go_end0 | go_ret | ((try simp only [Exit.inBlock, Exit.then]); refine bodyPost_ret (results_none rfl _ _ _) rfl ?_)
   exact ⟨rfl, HK2.out, HW.out, HT.out⟩
theorem builder_below {w w1 : World} {B b : Nat} {q : Value} {bs : List Value} (h : Lib.BuilderAt 65 5 B b q bs w) (hb : Below w.heap.size w w1) : Lib.BuilderAt 65 5 B b q bs w1 := by
 obtain ⟨h1, v, h2, h3, h4⟩ := h
 refine ⟨h1, v, blk_below h2 hb, ⟨h3.1, ?_⟩, h4⟩
 rcases h3.2 with h5 | ⟨g, cap, cur, e1, e2, e3, e4⟩
 ·exact .inl h5
 ·exact .inr ⟨g, cap, cur, e1, e2, blk_below e3 hb, e4⟩
theorem isB_below {w w1 : World} {B b : Nat} {out : List UInt8} (h : IsB B b out w) (hb : Below w.heap.size w w1) : IsB B b out w1 := by
 rcases h with h | h
 ·exact .inl (builder_below h hb)
 ·exact .inr (builder_below h hb)
set_option maxHeartbeats 8000000 in
set_option maxRecDepth 100000 in
theorem ready_w {w : World} {B b gb pb : Nat} {out : List UInt8} {bg : Bool} (h : IsB B b out w) (hB : B ≤ w.heap.size) (hgB : B ≤ gb) (hg : w.heap[gb]? = some (.cells #[.bool bg] 4 (0, 0))) (hp : w.heap[pb]? = some (.cells #[.func (.func 37) #[] #[.pointer (some ⟨b, 0, none⟩)]] 70 (0, 0))) (hl : out.length ≤ 140737488355000) :
 Calls Tryz.prog 39 #[.pointer (some ⟨gb, 0, none⟩), .pointer (some ⟨pb, 0, none⟩)] w fun e w' => e = .returned (.tuple #[]) ∧ ∃ W, w' = W.setCell ⟨gb, 0, none⟩ (.bool false) ∧ IsB B b (if bg = true then out ++ [62] else out) W ∧ Below B w W ∧ StayS w W := by
 have hg0 := (blk_cell hg 0).trans (show _ = some (Value.bool bg) from rfl)
 have hp0 := (blk_cell hp 0).trans (show _ = some (Value.func (.func 37) #[] #[.pointer (some ⟨b, 0, none⟩)]) from rfl)
 have hgf := blk_frozen hg 0
 cases bg with
 | false =>
  have H := Lib.hid h
  clear h
  go_enter Tryz.func39, Tryz.ntmps39
  go_wp2
  first | go_end0 | go_ret | ((try simp only [Exit.inBlock, Exit.then]); refine bodyPost_ret (results_none rfl _ _ _) rfl ?_)
  exact ⟨rfl, _, rfl, H.out, Below.refl _ _, StayS.refl _⟩
 | true =>
  have hN : w.heap[gb]? = _ := hg
  have HGB := Lib.hid hg
  have hbn := blk_new w (.cells (scells [⟨#[62]⟩]) 9)
  have HA := Lib.hid (show IsB B b out (w.alloc (.cells (scells [⟨#[62]⟩]) 9)) from isB_below h (below_alloc (Below.refl _ _) _))
  have HB := Lib.hid hB
  have HBN := Lib.hid hbn
  have HLEN := Lib.hid hl
  clear h hbn
  go_enter Tryz.func39, Tryz.ntmps39
  go_wp2_with (go_at_call 37; refine (put_w (l := [⟨#[62]⟩]) HA.out (by have := HB.out; simp; omega) HBN.out (by simp) (by intro k hk; have := HLEN.out; have h1 : (putL (([⟨#[62]⟩] : List ByteArray).take k)).length ≤ 1 := (by cases k with | zero => simp [putL] | succ m => simp [putL]); omega)).mono ?_; rintro e w1 ⟨rfl, h1, hb1, hs1⟩; have hga := (Below.heap_alloc w (.cells (scells [⟨#[62]⟩]) 9) gb (blk_lt HGB.out)).trans HGB.out; have hg1 := hs1 _ _ _ hga (by decide) (by decide); have hg10 := (blk_cell hg1 0).trans (show _ = some (Value.bool true) from rfl); have hg1f := blk_frozen hg1 0; have H1 := Lib.hid h1; have HB1 := Lib.hid hb1; have HS1 := Lib.hid hs1; clear h1 hb1 hs1)
  first | go_end0 | go_ret | ((try simp only [Exit.inBlock, Exit.then]); refine bodyPost_ret (results_none rfl _ _ _) rfl ?_)
  refine ⟨rfl, _, rfl, H1.out, ((Below.refl B w).alloc HB.out _).trans HB1.out, StayS.trans (fun q t x hq _ _ => (Below.heap_alloc w _ q (blk_lt hq)).trans hq) HS1.out⟩
end Go.Proofs.YtlhhhlimjajnlaaGreat.X
end
section
set_option linter.unusedVariables false
set_option linter.unusedSimpArgs false
namespace Go.Proofs.YtlhhhlimjajnlaaGreat.X
open Go.RowKit Go.Maps Go.Proofs.YtlhhhlimjajnlaaGreat Go.Proofs.YtlhhhlimjajnlaaGreat.Q Go.Proofs.YtlhhhlimjajnlaaGreatW.PrintWords Go.Proofs.YtlhhhlimjajnlaaGreatW.PrintLast Go.Proofs.YtlhhhlimjajnlaaGreatW.PrintMore
attribute [local go_sem] max2_int min2_int max_two min_two   
set_option maxHeartbeats 8000000 in
set_option maxRecDepth 100000 in
theorem each1_c {w : World} {g bb ga c1 : Nat} (u1 u2 : Value) (N : List Nod) (J : Nat → World → Prop) (hl : N.length ≤ 1000000)
 (hs : ∀ k W, J k W → W.cell? ⟨bb, 0, none⟩ = some (.pointer (some ⟨g, 0, none⟩)) ∧ W.cell? ⟨g, 0, none⟩ = some (.slice (some ⟨ga, 0, none⟩) N.length c1))
 (hr : ∀ k W, J k W → k < N.length → ∃ y, W.cell? ⟨ga, k * 4, none⟩ = some (.int .i64 (N.getD k ⟨0, 0, 0, ⟨#[]⟩⟩).f0) ∧ W.cell? ⟨ga, k * 4 + 1, none⟩ = some (.int .i64 y) ∧ W.cell? ⟨ga, k * 4 + 2, none⟩ = some (.int .i64 (N.getD k ⟨0, 0, 0, ⟨#[]⟩⟩).f2) ∧ W.cell? ⟨ga, k * 4 + 3, none⟩ = some (.string (N.getD k ⟨0, 0, 0, ⟨#[]⟩⟩).f3))
 (hB : ∀ k W W', J k W → Below W.heap.size W W' → J k W') (hskip : ∀ k W, J k W → k < N.length → (N.getD k ⟨0, 0, 0, ⟨#[]⟩⟩).f0 = 3 → J (k + 1) W)
 (hdo : ∀ k W, J k W → k < N.length → ¬ (N.getD k ⟨0, 0, 0, ⟨#[]⟩⟩).f0 = 3 → Calls Tryz.prog 61 #[.int .i64 k, u1, u2] W fun e w' => e = .returned (.tuple #[]) ∧ J (k + 1) w') (h0 : J 0 w) :
 Calls Tryz.prog 60 #[.func (.func 61) #[] #[u1, u2], .pointer (some ⟨bb, 0, none⟩)] w fun e w' => e = .returned (.tuple #[]) ∧ J N.length w' := by
 obtain ⟨hs1, hs2⟩ := hs 0 w h0
 have HR := Lib.hid hr
 have HB := Lib.hid hB
 have HS := Lib.hid hskip
 have HD := Lib.hid hdo
 have H0 := Lib.hid h0
 have HL := Lib.hid hl
 clear hs hr hB hskip hdo h0 hl
 obtain ⟨L, hL⟩ : ∃ L, N.length = L := ⟨_, rfl⟩
 have HLL := Lib.hid hL
 rw [hL] at hs2 ⊢
 clear hL
 go_enter Tryz.func60, Tryz.ntmps60
 go_wp2
 go_loopw [10] (fun t wr => ∃ k : Nat, k ≤ L ∧ t = .int .i64 k ∧ Hid (J k wr)) (fun t wr => L - (intOf t).toNat)
 case atStart => exact ⟨0, Nat.zero_le _, rfl, H0⟩
 case round =>
  clear H0 hs1 hs2
  obtain ⟨k, hk, rfl, hJ⟩ := hrel
  by_cases hlt : k < L
  ·have hkN : k < N.length := by rw [HLL.out]; exact hlt
   obtain ⟨y, r0, r1, r2, r3⟩ := HR.out k wr hJ.out hkN
   have HK := Lib.hid hkN
   obtain ⟨nd, hnd⟩ : ∃ nd, N.getD k ⟨0, 0, 0, ⟨#[]⟩⟩ = nd := ⟨_, rfl⟩
   rw [hnd] at r0 r2 r3
   have HN := Lib.hid hnd
   have p0 : ((0 : Int) ≤ (k : Int)) = True := eq_true (by omega)
   have p1 : ((k : Int) < (L : Int)) = True := eq_true (by omega)
   have e1 : IntKind.i64.wrap ((k : Int) + 1) = ((k + 1 : Nat) : Int) := by have := HL.out; have := HK.out; rw [IntKind.wrap_i64]; omega
   have HX := Lib.hid hlt
   clear hkN hnd
   by_cases c3 : nd.f0 = 3
   ·have b1 : (nd.f0 == 3) = true := by rw [c3]; rfl
    have b2 : (nd.f0 != 3) = false := by rw [bne, b1]; rfl
    go_wp2
    go_roundw
    case rel => exact ⟨k + 1, by omega, by first | rfl | go_num, Lib.hid (HS.out k _ (HB.out k _ _ hJ.out (zz31)) HK.out (by rw [HN.out]; exact c3))⟩
    case measure => simp [intOf]; omega
   ·have b1 : (nd.f0 == 3) = false := by rw [beq_eq_false_iff_ne]; exact c3
    have b2 : (nd.f0 != 3) = true := by rw [bne, b1]; rfl
    go_wp2_with (go_at_call 61; refine (HD.out k _ (HB.out k _ _ hJ.out (zz31)) HK.out (by rw [HN.out]; exact c3)).mono ?_; rintro e w1 ⟨rfl, h1⟩; have H1 := Lib.hid h1; clear h1)
    go_roundw
    case rel => exact ⟨k + 1, by omega, by first | rfl | go_num, H1⟩
    case measure => simp [intOf]; omega
  ·have hkL : k = L := by omega
   subst hkL
   have p1 : ((k : Int) < (k : Int)) = False := eq_false (by omega)
   go_wp2
   first | go_end0 | go_ret | ((try simp only [Exit.inBlock, Exit.then]); refine bodyPost_ret (results_none rfl _ _ _) rfl ?_)
   exact ⟨rfl, hJ.out⟩
set_option maxHeartbeats 8000000 in
set_option maxRecDepth 100000 in
theorem each3_c {w : World} {g bb ga c1 : Nat} (u1 u2 : Value) (N : List Nod) (J : Nat → World → Prop) (hl : N.length ≤ 1000000)
 (hs : ∀ k W, J k W → W.cell? ⟨bb, 0, none⟩ = some (.pointer (some ⟨g, 0, none⟩)) ∧ W.cell? ⟨g, 0, none⟩ = some (.slice (some ⟨ga, 0, none⟩) N.length c1))
 (hr : ∀ k W, J k W → k < N.length → ∃ y, W.cell? ⟨ga, k * 4, none⟩ = some (.int .i64 (N.getD k ⟨0, 0, 0, ⟨#[]⟩⟩).f0) ∧ W.cell? ⟨ga, k * 4 + 1, none⟩ = some (.int .i64 y) ∧ W.cell? ⟨ga, k * 4 + 2, none⟩ = some (.int .i64 (N.getD k ⟨0, 0, 0, ⟨#[]⟩⟩).f2) ∧ W.cell? ⟨ga, k * 4 + 3, none⟩ = some (.string (N.getD k ⟨0, 0, 0, ⟨#[]⟩⟩).f3))
 (hB : ∀ k W W', J k W → Below W.heap.size W W' → J k W') (hskip : ∀ k W, J k W → k < N.length → (N.getD k ⟨0, 0, 0, ⟨#[]⟩⟩).f0 = 3 → J (k + 1) W)
 (hdo : ∀ k W, J k W → k < N.length → ¬ (N.getD k ⟨0, 0, 0, ⟨#[]⟩⟩).f0 = 3 → Calls Tryz.prog 64 #[.int .i64 k, u1, u2] W fun e w' => e = .returned (.tuple #[]) ∧ J (k + 1) w') (h0 : J 0 w) :
 Calls Tryz.prog 60 #[.func (.func 64) #[] #[u1, u2], .pointer (some ⟨bb, 0, none⟩)] w fun e w' => e = .returned (.tuple #[]) ∧ J N.length w' := by
 obtain ⟨hs1, hs2⟩ := hs 0 w h0
 have HR := Lib.hid hr
 have HB := Lib.hid hB
 have HS := Lib.hid hskip
 have HD := Lib.hid hdo
 have H0 := Lib.hid h0
 have HL := Lib.hid hl
 clear hs hr hB hskip hdo h0 hl
 obtain ⟨L, hL⟩ : ∃ L, N.length = L := ⟨_, rfl⟩
 have HLL := Lib.hid hL
 rw [hL] at hs2 ⊢
 clear hL
 go_enter Tryz.func60, Tryz.ntmps60
 go_wp2
 go_loopw [10] (fun t wr => ∃ k : Nat, k ≤ L ∧ t = .int .i64 k ∧ Hid (J k wr)) (fun t wr => L - (intOf t).toNat)
 case atStart => exact ⟨0, Nat.zero_le _, rfl, H0⟩
 case round =>
  clear H0 hs1 hs2
  obtain ⟨k, hk, rfl, hJ⟩ := hrel
  by_cases hlt : k < L
  ·have hkN : k < N.length := by rw [HLL.out]; exact hlt
   obtain ⟨y, r0, r1, r2, r3⟩ := HR.out k wr hJ.out hkN
   have HK := Lib.hid hkN
   obtain ⟨nd, hnd⟩ : ∃ nd, N.getD k ⟨0, 0, 0, ⟨#[]⟩⟩ = nd := ⟨_, rfl⟩
   rw [hnd] at r0 r2 r3
   have HN := Lib.hid hnd
   have p0 : ((0 : Int) ≤ (k : Int)) = True := eq_true (by omega)
   have p1 : ((k : Int) < (L : Int)) = True := eq_true (by omega)
   have e1 : IntKind.i64.wrap ((k : Int) + 1) = ((k + 1 : Nat) : Int) := by have := HL.out; have := HK.out; rw [IntKind.wrap_i64]; omega
   have HX := Lib.hid hlt
   clear hkN hnd
   by_cases c3 : nd.f0 = 3
   ·have b1 : (nd.f0 == 3) = true := by rw [c3]; rfl
    have b2 : (nd.f0 != 3) = false := by rw [bne, b1]; rfl
    go_wp2
    go_roundw
    case rel => exact ⟨k + 1, by omega, by first | rfl | go_num, Lib.hid (HS.out k _ (HB.out k _ _ hJ.out (zz31)) HK.out (by rw [HN.out]; exact c3))⟩
    case measure => simp [intOf]; omega
   ·have b1 : (nd.f0 == 3) = false := by rw [beq_eq_false_iff_ne]; exact c3
    have b2 : (nd.f0 != 3) = true := by rw [bne, b1]; rfl
    go_wp2_with (go_at_call 64; refine (HD.out k _ (HB.out k _ _ hJ.out (zz31)) HK.out (by rw [HN.out]; exact c3)).mono ?_; rintro e w1 ⟨rfl, h1⟩; have H1 := Lib.hid h1; clear h1)
    go_roundw
    case rel => exact ⟨k + 1, by omega, by first | rfl | go_num, H1⟩
    case measure => simp [intOf]; omega
  ·have hkL : k = L := by omega
   subst hkL
   have p1 : ((k : Int) < (k : Int)) = False := eq_false (by omega)
   go_wp2
   first | go_end0 | go_ret | ((try simp only [Exit.inBlock, Exit.then]); refine bodyPost_ret (results_none rfl _ _ _) rfl ?_)
   exact ⟨rfl, hJ.out⟩
theorem node_set {W : World} {ga n cap base : Nat} {N : List Nod} (h : Kd.R k41 41 W base (fun _ => True) (.slice (some ⟨ga, 0, none⟩) n cap) N) (i : Nat) (hi : i < n) (z : Int) :
 Kd.R k41 41 (W.setCell ⟨ga, i * 4 + 1, none⟩ (.int .i64 z)) base (fun _ => True) (.slice (some ⟨ga, 0, none⟩) n cap) (N.set i { N.getD i ⟨0, 0, 0, ⟨#[]⟩⟩ with f1 := z }) ∧ W.grownBy (W.setCell ⟨ga, i * 4 + 1, none⟩ (.int .i64 z)) (some ga) := by
 obtain ⟨hn, hnc, hC⟩ := Kd.R_reads' h
 obtain ⟨ad, he, r0, r1, r2, r3⟩ := at_T41 hC (i : Int) (by omega) (by omega)
 cases he
 have hrd : rd_T41 N (i : Int) = N.getD i ⟨0, 0, 0, ⟨#[]⟩⟩ := by
  unfold rd_T41
  rw [Int.toNat_natCast, List.getD_eq_getElem?_getD, List.getD_eq_getElem?_getD, List.getElem?_eq_getElem (by omega)]; rfl
 rw [hrd] at r0 r1 r2 r3
 obtain ⟨x, hx⟩ : ∃ x, N.getD i ⟨0, 0, 0, ⟨#[]⟩⟩ = x := ⟨_, rfl⟩
 rw [hx] at r0 r1 r2 r3 ⊢
 have ea : (⟨ga, 0, none⟩ : Addr).add ((i : Int).toNat * 4) = ⟨ga, i * 4, none⟩ := by simp [Addr.add]; omega
 rw [ea] at r0 r1 r2 r3
 have := Kd.R_seg (c := [.int .i64 x.f0, .int .i64 x.f1, .int .i64 x.f2, .string x.f3]) (seg := [.int .i64 z]) (j := 1) (okp := fun _ => False) (x' := { x with f1 := z }) h (i : Int) (by omega) (by omega) rfl (by
  intro j u hj
  match j, hj with
  | 0, hj => obtain rfl := Option.some.inj hj; exact r0
  | 1, hj => obtain rfl := Option.some.inj hj; exact r1
  | 2, hj => obtain rfl := Option.some.inj hj; exact r2
  | 3, hj => obtain rfl := Option.some.inj hj; exact r3) (by show 1 + 1 ≤ 4; omega) (k41_mkM _ _ _ ({ x with f1 := z } : Nod)) (fun _ hk => hk.elim)
 rw [Int.toNat_natCast] at this
 exact this
set_option maxHeartbeats 8000000 in
set_option maxRecDepth 100000 in
theorem tree_no {w0 w : World} {g : Nat} {v1 v2 v3 : Value} {p : PS} (h : Bd w0 w g v1 v2 v3 p) (hl : p.n.length ≤ 900000) (hl3 : p.o.length ≤ 900000) (hbad : p.wr = true ∨ 0 < p.o.length ∨ p.n.length = 0) :
 Calls Tryz.prog 31 #[.pointer (some ⟨g, 0, none⟩)] w fun e w' => e = .returned (.tuple #[.agg #[.slice none 0 0, .slice none 0 0], .int .i64 15]) ∧ Below w.heap.size w w' := by
 obtain ⟨A1, c1, rfl, -, -⟩ := Kd.R_reads h.r1
 obtain ⟨A3, c3, rfl, -, -⟩ := Kd.R_reads h.r3
 have hc0 := h.c0
 have hc2 := h.c2
 have hc5 := h.c5
 obtain ⟨L1, hL1⟩ : ∃ L, p.n.length = L := ⟨_, rfl⟩
 obtain ⟨L3, hL3⟩ : ∃ L, p.o.length = L := ⟨_, rfl⟩
 have hB2 : ∀ o o' : Obj, Below w.heap.size w ((w.alloc o).alloc o') := fun o o' => below_alloc (below_alloc (Below.refl w.heap.size w) o) o'
 have h0 : ∀ o o' : Obj, ((w.alloc o).alloc o').cell? ⟨g, 0, none⟩ = some (.slice A1 L1 c1) := fun o o' => by rw [← hL1]; exact (h.below (hB2 o o')).c0
 have h2 : ∀ o o' : Obj, ((w.alloc o).alloc o').cell? ⟨g, 2, none⟩ = some (.slice A3 L3 c3) := fun o o' => by rw [← hL3]; exact (h.below (hB2 o o')).c2
 rw [hL1] at hbad
 rw [hL3] at hbad
 have HB := Lib.hid hB2
 have hcase : p.wr = true ∨ (p.wr = false ∧ 0 < L3) ∨ (p.wr = false ∧ L3 = 0 ∧ L1 = 0) := by
  by_cases hw : p.wr = true
  ·exact Or.inl hw
  ·have hw' : p.wr = false := by simpa using hw
   by_cases h3 : 0 < L3
   ·exact Or.inr (Or.inl ⟨hw', h3⟩)
   ·rcases hbad with hb | hb | hb
    ·exact absurd hb hw
    ·exact absurd hb h3
    ·exact Or.inr (Or.inr ⟨hw', by omega, hb⟩)
 rcases hcase with hw | ⟨hw, h3⟩ | ⟨hw, h3, h1⟩
 ·have h5 : ∀ o o' : Obj, ((w.alloc o).alloc o').cell? ⟨g, 5, none⟩ = some (.bool true) := fun o o' => by rw [← hw]; exact (h.below (hB2 o o')).c5
  clear h hc0 hc2 hc5 hB2 hbad hL1 hL3 hl hl3
  go_enter Tryz.func31, Tryz.ntmps31
  go_wp2
  refine bodyPost_ret (results_ct rfl _ _ (w.heap.size + 1) 27 #[.slice none 0 0, .slice none 0 0] (0, 0) _ rfl (zz32) Tryz.underlying27 rfl (by kernel_rfl)) rfl ?_
  exact ⟨rfl, HB.out _ _⟩
 ·have h5 : ∀ o o' : Obj, ((w.alloc o).alloc o').cell? ⟨g, 5, none⟩ = some (.bool false) := fun o o' => by rw [← hw]; exact (h.below (hB2 o o')).c5
  have b1 : ((0 : Int) < (L3 : Int)) = True := eq_true (by omega)
  clear h hc0 hc2 hc5 hB2 hbad hL1 hL3 hl hl3
  go_enter Tryz.func31, Tryz.ntmps31
  go_wp2
  refine bodyPost_ret (results_ct rfl _ _ (w.heap.size + 1) 27 #[.slice none 0 0, .slice none 0 0] (0, 0) _ rfl (zz32) Tryz.underlying27 rfl (by kernel_rfl)) rfl ?_
  exact ⟨rfl, HB.out _ _⟩
 ·have h5 : ∀ o o' : Obj, ((w.alloc o).alloc o').cell? ⟨g, 5, none⟩ = some (.bool false) := fun o o' => by rw [← hw]; exact (h.below (hB2 o o')).c5
  subst h3 h1
  clear h hc0 hc2 hc5 hB2 hbad hL1 hL3 hl hl3
  go_enter Tryz.func31, Tryz.ntmps31
  go_wp2
  refine bodyPost_ret (results_ct rfl _ _ (w.heap.size + 1) 27 #[.slice none 0 0, .slice none 0 0] (0, 0) _ rfl (zz32) Tryz.underlying27 rfl (by kernel_rfl)) rfl ?_
  exact ⟨rfl, HB.out _ _⟩
end Go.Proofs.YtlhhhlimjajnlaaGreat.X
end
section
set_option linter.unusedVariables false
set_option linter.unusedSimpArgs false
namespace Go.Proofs.YtlhhhlimjajnlaaGreat.X
open Go.RowKit Go.Maps Go.Proofs.YtlhhhlimjajnlaaGreat Go.Proofs.YtlhhhlimjajnlaaGreat.Q Go.Proofs.YtlhhhlimjajnlaaGreatW.PrintWords Go.Proofs.YtlhhhlimjajnlaaGreatW.PrintLast Go.Proofs.YtlhhhlimjajnlaaGreatW.PrintMore
theorem Bd.grownM {w0 W W' : World} {g m : Nat} {v1 v2 v3 : Value} {p : PS} (h : Bd w0 W g v1 v2 v3 p) (hg : W.grownBy W' (some m)) (hm : ∀ cells t fr, W.heap[m]? ≠ some (.cells cells t fr)) (hb : Below w0.heap.size w0 W') : Bd w0 W' g v1 v2 v3 p := by
 have hgm : some g ≠ some m := fun e => by injection e with e; subst e; exact hm _ _ _ h.blk
 have hr : ∀ {α : Type} {d : Kd α} {e b : Nat} {ok : Nat → Prop} {v : Value} {xs : List α}, d.R e W b ok v xs → ∀ k, some m = some k → some k ≠ v.ownBlock := by
  intro α d e b ok v xs hR k hk he
  injection hk with hk
  subst hk
  obtain ⟨cells, hc⟩ := Kd.R_typed hR m he.symm
  exact hm _ _ _ hc
 exact ⟨blk_grown h.blk hg hgm, h.ge, Kd.R_grown2 h.r1 rfl hg (hr h.r1), Kd.R_grown2 h.r2 rfl hg (hr h.r2), Kd.R_grown2 h.r3 rfl hg (hr h.r3), hb⟩
theorem R_grownM {W W' : World} {m : Nat} (hg : W.grownBy W' (some m)) (hm : ∀ cells t fr, W.heap[m]? ≠ some (.cells cells t fr)) {α : Type} {d : Kd α} {e b : Nat} {ok : Nat → Prop} {v : Value} {xs : List α} (hR : d.R e W b ok v xs) (hE : d.E = []) : d.R e W' b ok v xs := by
 refine Kd.R_grown2 hR hE hg ?_
 intro k hk he
 injection hk with hk
 subst hk
 obtain ⟨cells, hc⟩ := Kd.R_typed hR m he.symm
 exact hm _ _ _ hc
def keysTo (p : PS) (k : Nat) : List Lit := (((p.n.zip p.s).take k).filterMap fun c => if c.1.f0 = 3 then none else some (Lit.string c.2.data.toList))
theorem keysTo_skip (p : PS) (k : Nat) (hk : k < p.n.length) (hs : p.s.length = p.n.length) (h3 : (p.n.getD k ⟨0, 0, 0, ⟨#[]⟩⟩).f0 = 3) : keysTo p (k + 1) = keysTo p k := by
 unfold keysTo
 have hz : k < (p.n.zip p.s).length := by rw [List.length_zip]; omega
 rw [List.take_succ_eq_append_getElem hz, List.filterMap_append]
 have : ((p.n.zip p.s)[k]).1.f0 = 3 := by
  rw [List.getElem_zip]
  rw [List.getD_eq_getElem?_getD, List.getElem?_eq_getElem hk] at h3
  exact h3
 rw [List.filterMap_cons, List.filterMap_nil]
 simp only [this, if_true]
 rw [List.append_nil]
theorem keysTo_name (p : PS) (k : Nat) (hk : k < p.n.length) (hs : p.s.length = p.n.length) (h3 : ¬ (p.n.getD k ⟨0, 0, 0, ⟨#[]⟩⟩).f0 = 3) : keysTo p (k + 1) = keysTo p k ++ [Lit.string (p.s.getD k ⟨#[]⟩).data.toList] := by
 unfold keysTo
 have hz : k < (p.n.zip p.s).length := by rw [List.length_zip]; omega
 rw [List.take_succ_eq_append_getElem hz, List.filterMap_append]
 have h1 : ¬ ((p.n.zip p.s)[k]).1.f0 = 3 := by
  rw [List.getElem_zip]
  rw [List.getD_eq_getElem?_getD, List.getElem?_eq_getElem hk] at h3
  exact h3
 have h2 : ((p.n.zip p.s)[k]).2 = p.s.getD k ⟨#[]⟩ := by
  rw [List.getElem_zip, List.getD_eq_getElem?_getD, List.getElem?_eq_getElem (by omega)]; rfl
 congr 1
 rw [List.filterMap_cons, List.filterMap_nil]
 simp only [h1, if_false, h2]
def J1 (w0 w Ws : World) (g nb bb mb : Nat) (v1 v2 v3 : Value) (p : PS) (k : Nat) (W : World) : Prop :=
 W.cell? ⟨bb, 0, none⟩ = some (.pointer (some ⟨g, 0, none⟩)) ∧ W.cell? ⟨nb, 0, none⟩ = some (.map (some mb)) ∧ Bd w0 W g v1 v2 v3 p ∧ W.ownsMap Tryz.prog 9 RI mb k (setOf (.lit (.int .i64 0)) (keysTo p k)) ∧ (∀ cells t fr, W.heap[mb]? ≠ some (.cells cells t fr)) ∧ Below w.heap.size w W ∧ Ws.heap.size ≤ W.heap.size ∧ ∀ b, b < Ws.heap.size → b ≠ mb → W.heap[b]? = Ws.heap[b]?
theorem owns_no {W : World} {mb cnt : Nat} {D : DataW Unit} (h : W.ownsMap Tryz.prog 9 RI mb cnt D) : ∀ cells t fr, W.heap[mb]? ≠ some (.cells cells t fr) := by
 obtain ⟨es, clock, hb, _⟩ := h
 intro cells t fr he
 rw [hb] at he
 injection he with he
 cases he
theorem fill_c {w0 w Ws W0 : World} {g nb bb mb ga gn c1 c2 : Nat} {v3 : Value} {p : PS} (hl : p.n.length ≤ 1000000) (hs : p.s.length = p.n.length) (hx : ∀ s, s ∈ p.s → s.size ≤ maxLen) (hw : w0.heap.size ≤ w.heap.size) (hmb : w.heap.size ≤ mb) (hnb : nb ≠ mb) (hbb : bb ≠ mb)
 (h0 : J1 w0 w Ws g nb bb mb (.slice (some ⟨ga, 0, none⟩) p.n.length c1) (.slice (some ⟨gn, 0, none⟩) p.s.length c2) v3 p 0 W0) :
 Calls Tryz.prog 60 #[.func (.func 61) #[] #[.pointer (some ⟨nb, 0, none⟩), .pointer (some ⟨bb, 0, none⟩)], .pointer (some ⟨bb, 0, none⟩)] W0 fun e w' => e = .returned (.tuple #[]) ∧ J1 w0 w Ws g nb bb mb (.slice (some ⟨ga, 0, none⟩) p.n.length c1) (.slice (some ⟨gn, 0, none⟩) p.s.length c2) v3 p p.n.length w' := by
 refine each1_c (g := g) (bb := bb) (ga := ga) (c1 := c1) _ _ p.n (J1 w0 w Ws g nb bb mb (.slice (some ⟨ga, 0, none⟩) p.n.length c1) (.slice (some ⟨gn, 0, none⟩) p.s.length c2) v3 p) hl ?_ ?_ ?_ ?_ ?_ h0
 ·rintro k W ⟨j1, j2, j3, -⟩
  exact ⟨j1, j3.c0⟩
 ·rintro k W ⟨j1, j2, j3, -⟩ hk
  have hC := (Kd.R_reads' j3.r1).2.2
  obtain ⟨ad, he, r0, r1, r2, r3⟩ := at_T41 hC (k : Int) (by omega) (by omega)
  cases he
  have hrd : rd_T41 p.n (k : Int) = p.n.getD k ⟨0, 0, 0, ⟨#[]⟩⟩ := by
   unfold rd_T41
   rw [Int.toNat_natCast, List.getD_eq_getElem?_getD, List.getD_eq_getElem?_getD, List.getElem?_eq_getElem hk]; rfl
  have ea : (⟨ga, 0, none⟩ : Addr).add ((k : Int).toNat * 4) = ⟨ga, k * 4, none⟩ := by simp [Addr.add]; omega
  rw [hrd, ea] at r0 r1 r2 r3
  exact ⟨_, r0, r1, r2, r3⟩
 ·rintro k W W' ⟨j1, j2, j3, j4, j5, j6, j7, j8⟩ hb
  have g1 := W.block_lt_of_cell? _ j1
  have g2 := W.block_lt_of_cell? _ j2
  have gr : W.grownBy W' none := ⟨hb.os, hb.tape, hb.output, hb.size, fun k hk _ => hb.block k hk⟩
  have j4' := j4.kept gr (by simp)
  exact ⟨(hb.cell g1).trans j1, (hb.cell g2).trans j2, j3.below hb, j4', owns_no j4', below_step j6 hb, Nat.le_trans j7 hb.size, fun b h1 h2 => (hb.block b (by omega)).trans (j8 b h1 h2)⟩
 ·rintro k W ⟨j1, j2, j3, j4, j5, j6, j7, j8⟩ hk h3
  exact ⟨j1, j2, j3, by rw [keysTo_skip p k hk hs h3]; exact j4.mono (by omega), j5, j6, j7, j8⟩
 ·rintro k W ⟨j1, j2, j3, j4, j5, j6, j7, j8⟩ hk h3
  have hC := (Kd.R_reads' j3.r2).2.2
  obtain ⟨ad, he, hcell⟩ := Kd.at_string hC (k : Int) (by omega) (by omega)
  cases he
  have hS : rdOf ByteArray.empty p.s (k : Int) = p.s.getD k ⟨#[]⟩ := by
   unfold rdOf
   rw [Int.toNat_natCast, List.getD_eq_getElem?_getD, List.getD_eq_getElem?_getD, List.getElem?_eq_getElem (by omega)]; rfl
  have ea : (⟨gn, 0, none⟩ : Addr).add ((k : Int).toNat) = ⟨gn, k, none⟩ := by simp [Addr.add]; omega
  rw [hS, ea] at hcell
  have hmem : p.s.getD k ⟨#[]⟩ ∈ p.s := by
   rw [List.getD_eq_getElem?_getD, List.getElem?_eq_getElem (by omega)]
   exact List.getElem_mem _
  refine (do1_c (g := g) (gn := gn) (n2 := p.s.length) (c2 := c2) j2 j1 j3.c1 (by omega) hcell (hx _ hmem) j4 (by unfold maxLen; omega)).mono ?_
  rintro e w' ⟨rfl, ho, hg⟩
  have g1 := hg.cell (a := ⟨bb, 0, none⟩) (v := .pointer (some ⟨g, 0, none⟩)) (by exact j1) (by simpa using hbb)
  have g2 := hg.cell (a := ⟨nb, 0, none⟩) (v := .map (some mb)) (by exact j2) (by simpa using hnb)
  have hb6 : Below w.heap.size w w' := Below.grown (below_drew j6) hg j6.size (fun k hk => by injection hk with hk; omega)
  have hB0 : Below w0.heap.size w0 w' := Below.grown (below_drew j3.bel) hg (by have := j3.bel.size; exact this) (fun k hk => by injection hk with hk; omega)
  refine ⟨rfl, g1, g2, Bd.grownM j3.drew hg j5 hB0, ?_, owns_no ho, hb6, Nat.le_trans j7 hg.size, fun b h1 h2 => (hg.block b (by have : W.drew.heap.size = W.heap.size := rfl; omega) (by simpa using h2)).trans (j8 b h1 h2)⟩
  rw [keysTo_name p k hk hs h3, setOf_snoc]
  exact ho
end Go.Proofs.YtlhhhlimjajnlaaGreat.X
end
