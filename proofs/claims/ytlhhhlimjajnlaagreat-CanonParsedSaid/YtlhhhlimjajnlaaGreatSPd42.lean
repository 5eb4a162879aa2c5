/- Parts of the proof of canonParsed_holds, kept and merged by a program of mine (wip/tools/slim.py) out of my texts: Sme -/
import Derived.Test.YtlhhhlimjajnlaaGreatSPd0
import Derived.Lib.Hide
import Derived.WalkKit
import Derived.Deep.RegionHeld3
import Derived.Test.YtlhhhlimjajnlaaGreatSPd24
section
set_option linter.unusedVariables false
set_option linter.unusedSimpArgs false
namespace Go.Proofs.YtlhhhlimjajnlaaGreat.X
open Go.RowKit Go.Proofs.YtlhhhlimjajnlaaGreat Go.Proofs.YtlhhhlimjajnlaaGreat.Q Go.Proofs.YtlhhhlimjajnlaaGreatW.PrintWords Go.Proofs.YtlhhhlimjajnlaaGreatW.PrintLast Go.Proofs.YtlhhhlimjajnlaaGreatW.PrintMore
attribute [local go_sem] max2_int min2_int max_two min_two   
section
variable {N : List ByteArray} {D : List S41} {nn n c d c' d' : Nat} {w : World} {A B A' B' : Option Addr}
theorem two_s (hnn : N.length = nn) (hA : Kd.C Kd.string w A nn N) (hB : Kd.C Kd.string w B nn N) : Hid (∀ i, i < nn → ∀ wr, Below w.heap.size w wr → ∃ a b x, A = some a ∧ B = some b ∧ wr.cell? (a.add i) = some (.string x) ∧ wr.cell? (b.add i) = some (.string x)) := Lib.hid <| by
 intro i hi wr hb
 obtain ⟨a, e1, r1⟩ := Kd.at_string hA (i : Int) (by omega) (by omega)
 obtain ⟨b, e2, r2⟩ := Kd.at_string hB (i : Int) (by omega) (by omega)
 exact ⟨a, b, _, e1, e2, (hb.cell (World.block_lt_of_cell? w _ r1)).trans r1, (hb.cell (World.block_lt_of_cell? w _ r2)).trans r2⟩
theorem two_n (hn : D.length = n) (hA : Kd.C k41 w A n D) (hB : Kd.C k41 w B n D) : Hid (∀ i, i < n → ∀ wr, Below w.heap.size w wr → ∃ a b, ∃ x : S41, A = some a ∧ B = some b ∧ (wr.cell? (a.add (i * 4)) = some (.int .i64 x.f0) ∧ wr.cell? ⟨(a.add (i * 4)).block, (a.add (i * 4)).off + 1, none⟩ = some (.int .i64 x.f1) ∧ wr.cell? ⟨(a.add (i * 4)).block, (a.add (i * 4)).off + 2, none⟩ = some (.int .i64 x.f2) ∧ wr.cell? ⟨(a.add (i * 4)).block, (a.add (i * 4)).off + 3, none⟩ = some (.string x.f3)) ∧
 wr.cell? (b.add (i * 4)) = some (.int .i64 x.f0) ∧ wr.cell? ⟨(b.add (i * 4)).block, (b.add (i * 4)).off + 1, none⟩ = some (.int .i64 x.f1) ∧ wr.cell? ⟨(b.add (i * 4)).block, (b.add (i * 4)).off + 2, none⟩ = some (.int .i64 x.f2) ∧ wr.cell? ⟨(b.add (i * 4)).block, (b.add (i * 4)).off + 3, none⟩ = some (.string x.f3)) := Lib.hid <| by
 intro i hi wr hb
 obtain ⟨a, e1, r1, r2, r3, r4⟩ := at_T41 hA (i : Int) (by omega) (by omega)
 obtain ⟨b, e2, s1, s2, s3, s4⟩ := at_T41 hB (i : Int) (by omega) (by omega)
 have hc : ∀ {p v}, w.cell? p = some v → wr.cell? p = some v := fun h => (hb.cell (World.block_lt_of_cell? w _ h)).trans h
 exact ⟨a, b, _, e1, e2, ⟨hc r1, hc r2, hc r3, hc r4⟩, hc s1, hc s2, hc s3, hc s4⟩
theorem two_box {v0 v1 x0 x1 : Value} : ∃ w2, (w.alloc (.cells #[v0, v1] 27)).alloc (.cells #[x0, x1] 27) = w2 ∧ Hid (Below w.heap.size w w2 ∧ ∀ W, Below w2.heap.size w2 W → W.cell? ⟨w.heap.size, 0, none⟩ = some v0 ∧ W.cell? ⟨w.heap.size, 1, none⟩ = some v1 ∧ W.cell? ⟨w.heap.size + 1, 0, none⟩ = some x0 ∧ W.cell? ⟨w.heap.size + 1, 1, none⟩ = some x1) := by
 refine ⟨_, rfl, Lib.hid ⟨below_alloc (below_alloc (Below.refl _ _) _) _, fun W hW => ?_⟩⟩
 have h1 := blk_below (blk_alloc (blk_new w (.cells #[v0, v1] 27)) (.cells #[x0, x1] 27)) hW
 have h2 := blk_new (w.alloc (.cells #[v0, v1] 27)) (.cells #[x0, x1] 27)
 rw [show (w.alloc (.cells #[v0, v1] 27)).heap.size = w.heap.size + 1 from by simp] at h2
 have h2 := blk_below h2 hW
 exact ⟨(blk_cell h1 0).trans rfl, (blk_cell h1 1).trans rfl, (blk_cell h2 0).trans rfl, (blk_cell h2 1).trans rfl⟩
set_option maxHeartbeats 8000000 in
set_option maxRecDepth 100000 in
theorem rsame_c (hnn : N.length = nn) (hl : nn ≤ 1000000) (hn : D.length = n) (hm : n ≤ 1000000) (hA : Kd.C Kd.string w A nn N) (hB : Kd.C k41 w B n D) (hA' : Kd.C Kd.string w A' nn N) (hB' : Kd.C k41 w B' n D) :
 Calls Tryz.prog 14 #[.agg #[.slice A nn c, .slice B n d], .agg #[.slice A' nn c', .slice B' n d']] w fun e w' => e = .returned (.bool true) ∧ Below w.heap.size w w' := by
 go_enter Tryz.func14, Tryz.ntmps14
 go_upto_region 1 with (fail)
 obtain ⟨w2, hw2, H2⟩ := two_box (w := w) (v0 := .slice A nn c) (v1 := .slice B n d) (x0 := .slice A' nn c') (x1 := .slice B' n d')
 rw [hw2]
 obtain ⟨hb, hc⟩ := H2.out
 obtain ⟨x0, x1, x2, x3⟩ := hc w2 (Below.refl _ _)
 have H1 := two_s hnn (Kd.C_below hA hb) (Kd.C_below hA' hb)
 have H3 := two_n hn (Kd.C_below hB hb) (Kd.C_below hB' hb)
 have HB := Lib.hid hb
 have HC := Lib.hid hc
 clear hb hc hA hB hA' hB' hw2
 go_wp2
 clear x0 x1 x2 x3
 go_loopw [5] (fun v5 wr => ∃ i : Nat, i ≤ nn ∧ v5 = .int .i64 i ∧ Hid (Drawn0 w2 wr)) (fun v5 wr => nn - (intOf v5).toNat)
 case atStart => exact ⟨0, by omega, rfl, Lib.hid ⟨0, rfl⟩⟩
 case round =>
  obtain ⟨i, hi, rfl, HD⟩ := hrel
  obtain ⟨nd, rfl⟩ := HD.out
  obtain ⟨y0, y1, y2, y3⟩ := HC.out _ (pw_below_drewN (Below.refl w2.heap.size w2) nd)
  have e1 : IntKind.i64.wrap ((i : Int) + 1) = ((i + 1 : Nat) : Int) := zz11
  by_cases hlt : i < nn
  ·obtain ⟨a, b, x, rfl, rfl, r1, r2⟩ := H1.out i hlt _ (pw_below_drewN (Below.refl _ _) nd)
   have p1 : ((0 : Int) ≤ (i : Int)) = True := eq_true (by omega)
   have p2 : ((i : Int) < (nn : Int)) = True := eq_true (by omega)
   have HLT := Lib.hid hlt
   clear HD hlt
   go_wp2
   go_region_held3 (fun W => (W.cell? ⟨w.heap.size, 0, none⟩ = some (.slice (some a) nn c) ∧ W.cell? ⟨w.heap.size + 1, 0, none⟩ = some (.slice (some b) nn c')) ∧ W.cell? (a.add i) = some (.string x) ∧ W.cell? (b.add i) = some (.string x)) (first | exact ⟨⟨by assumption, by assumption⟩, by assumption, by assumption⟩ | go_keep) (fail)
   go_wp2
   have := HLT.out
   go_roundw
   case rel => exact ⟨i + 1, by omega, by first | rfl | go_num, Lib.hid ⟨nd + 1, rfl⟩⟩
   case measure => simp [intOf]; omega
  obtain rfl : i = nn := by omega
  have p2 : ((i : Int) < (i : Int)) = False := eq_false (by omega)
  clear hlt
  go_wp2
  clear y0 y1 y2 y3 e1
  go_loopw [6] (fun v6 wr => ∃ i : Nat, i ≤ n ∧ v6 = .int .i64 i ∧ Hid (Drawn0 w2 wr)) (fun v6 wr => n - (intOf v6).toNat)
  case atStart => exact ⟨0, by omega, rfl, HD⟩
  case round =>
   clear HD p2
   obtain ⟨j, hj, rfl, HD⟩ := hrel
   obtain ⟨nd, rfl⟩ := HD.out
   obtain ⟨y0, y1, y2, y3⟩ := HC.out _ (pw_below_drewN (Below.refl w2.heap.size w2) nd)
   have e1 : IntKind.i64.wrap ((j : Int) + 1) = ((j + 1 : Nat) : Int) := zz11
   by_cases hlt : j < n
   ·obtain ⟨a, b, x, rfl, rfl, ⟨r1, r2, r3, r4⟩, s1, s2, s3, s4⟩ := H3.out j hlt _ (pw_below_drewN (Below.refl _ _) nd)
    have p1 : ((0 : Int) ≤ (j : Int)) = True := eq_true (by omega)
    have p2 : ((j : Int) < (n : Int)) = True := eq_true (by omega)
    have HLT := Lib.hid hlt
    clear HD hlt
    go_wp2
    go_region_held3 (fun W => (W.cell? ⟨w.heap.size, 1, none⟩ = some (.slice (some a) n d) ∧ W.cell? ⟨w.heap.size + 1, 1, none⟩ = some (.slice (some b) n d')) ∧ W.cell? (a.add (j * 4)) = some (.int .i64 x.f0) ∧ W.cell? ⟨(a.add (j * 4)).block, (a.add (j * 4)).off + 1, none⟩ = some (.int .i64 x.f1) ∧ W.cell? ⟨(a.add (j * 4)).block, (a.add (j * 4)).off + 2, none⟩ = some (.int .i64 x.f2) ∧ W.cell? ⟨(a.add (j * 4)).block, (a.add (j * 4)).off + 3, none⟩ = some (.string x.f3) ∧ W.cell? (b.add (j * 4)) = some (.int .i64 x.f0) ∧ W.cell? ⟨(b.add (j * 4)).block, (b.add (j * 4)).off + 1, none⟩ = some (.int .i64 x.f1) ∧ W.cell? ⟨(b.add (j * 4)).block, (b.add (j * 4)).off + 2, none⟩ = some (.int .i64 x.f2) ∧ W.cell? ⟨(b.add (j * 4)).block, (b.add (j * 4)).off + 3, none⟩ = some (.string x.f3)) (first | exact ⟨⟨by assumption, by assumption⟩, by assumption, by assumption, by assumption, by assumption, by assumption, by assumption, by assumption, by assumption⟩ | go_keep) (fail)
    go_wp2
    have := HLT.out
    go_roundw
    case rel => exact ⟨j + 1, by omega, by first | rfl | go_num, Lib.hid ⟨nd + 1, rfl⟩⟩
    case measure => simp [intOf]; omega
   obtain rfl : j = n := by omega
   have p2 : ((j : Int) < (j : Int)) = False := eq_false (by omega)
   clear hlt
   go_wp2
   go_ret
   exact ⟨rfl, pw_below_drewN HB.out _⟩
end
end Go.Proofs.YtlhhhlimjajnlaaGreat.X
end
