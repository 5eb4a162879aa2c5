/- Parts of the proof of canonDocs_holds, kept and merged by a program of mine (wip/tools/slim.py) out of my texts: RWr -/
import Derived.Test.YtlhhhlimjajnlaaGreatSDc39
import Derived.Test.YtlhhhlimjajnlaaGreatSDc40
section
set_option linter.unusedVariables false
set_option linter.unusedSimpArgs false
namespace Go.Proofs.YtlhhhlimjajnlaaGreat.X
open Go.RowKit Go.Maps Go.Proofs.YtlhhhlimjajnlaaGreat Go.Proofs.YtlhhhlimjajnlaaGreat.Q Go.Proofs.YtlhhhlimjajnlaaGreat.P11 Go.Proofs.YtlhhhlimjajnlaaGreat.P14 Go.Proofs.YtlhhhlimjajnlaaGreat.Ck Go.Proofs.YtlhhhlimjajnlaaGreatW.PrintWords Go.Proofs.YtlhhhlimjajnlaaGreatW.PrintLast Go.Proofs.YtlhhhlimjajnlaaGreatW.PrintMore
attribute [local go_sem] max2_int min2_int max_two min_two   
set_option maxHeartbeats 8000000 in
set_option maxRecDepth 100000 in
theorem refwrite_c {N : List ByteArray} {D : List Nod} {w : World} {AN AD : Option Addr} {cN cD : Nat} (hN : Kd.C Kd.string w AN N.length N) (hcN : N.length ≤ cN) (hD : Kd.C k41 w AD D.length D) (hcD : D.length ≤ cD) (hs : ∀ x, x ∈ N → x.size ≤ 1000000000) (hx : ∀ x, x ∈ D → x.f3.size ≤ 1000000000) :
 Calls Tryz.prog 18 #[.agg #[.slice AN N.length cN, .slice AD D.length cD]] w fun e w' => e = .returned (.tuple #[.string (writeV N D).1, .int .i64 (writeV N D).2]) ∧ Below w.heap.size w w' := by
 obtain ⟨nn, hnn⟩ : ∃ nn, N.length = nn := ⟨_, rfl⟩
 obtain ⟨n, hnD⟩ : ∃ n, D.length = n := ⟨_, rfl⟩
 rw [hnn] at hN hcN ⊢
 rw [hnD] at hD hcD ⊢
 have HCK := Lib.hid (fun W (hW : Below w.heap.size w W) => refcheck_c (cN := cN) (cD := cD) (w := W) (N := N) (D := D) (by rw [hnn]; exact Kd.C_below hN hW) (by omega) (by rw [hnD]; exact Kd.C_below hD hW) (by omega) hs hx)
 rw [hnn, hnD] at HCK
 by_cases c : checkV N D = 0
 ·obtain ⟨c1, c2, c3⟩ := check_named c
  have hok := okN_of c hs hx
  obtain ⟨op, hop⟩ := check_rows c
  have hpos : 0 < D.length := by
   unfold checkV at c
   split at c
   ·cases c
   ·omega
  have hout := end_el (N := N) (fun x hx => named_kinds (c3 x hx)) hpos hop
  have hlen := out_len hok
  rw [hout] at hlen
  have hroot : ¬ (D.getD 0 nz).f0 = 3 := by
   have := rows_low (prK D) op hop 0 _ (prK_get D 0 hpos)
   obtain ⟨o, o', -, -, r1, -⟩ := this
   have := (r1 rfl).1
   simp only at this
   omega
  have HEL := Lib.hid (fun W (hW : Below w.heap.size w W) => element_c (cN := cN) (cD := cD) hok (⟨hop⟩ : Rw D op).low c1 hnn hnD hN hD D.length 0 W hW (by omega) hpos hroot (by omega))
  have hwv : writeV N D = if 65536 < (elP N D 0).length then ((⟨#[]⟩ : ByteArray), 11) else (bytesL (elP N D 0), 0) := by
   unfold writeV
   rw [if_pos c, hout]; rfl
  rw [c] at HCK
  obtain ⟨E, hE⟩ : ∃ E, bytesL (elP N D 0) = E := ⟨_, rfl⟩
  have hEs : E.size = (elP N D 0).length := by rw [← hE, bl_size]
  rw [hE] at HEL hwv
  by_cases c4 : 65536 < (elP N D 0).length
  ·rw [if_pos c4] at hwv
   rw [hwv]
   have p1 : ((65536 : Int) < (E.size : Int)) = True := eq_true (by omega)
   clear hwv hlen hout hE hroot
   go_enter Tryz.func18, Tryz.ntmps18
   go_wp2_with (first | (go_at_call 20; refine (HCK.out _ (below_alloc (Below.refl _ _) _)).mono ?_; rintro e w2 ⟨rfl, hb2⟩; have hbx := blk_below (blk_new w (.cells #[.slice AN nn cN, .slice AD n cD] 27)) hb2; have u0 := (blk_cell hbx 0).trans (show _ = some (Value.slice AN nn cN) from rfl); have u1 := (blk_cell hbx 1).trans (show _ = some (Value.slice AD n cD) from rfl); have HB2 := Lib.hid (below_step (below_alloc (Below.refl w.heap.size w) _) hb2); clear hb2) | (go_at_call 44; refine (HEL.out _ HB2.out).mono ?_; rintro e w3 ⟨rfl, hb3⟩; have HB3 := Lib.hid (below_step HB2.out hb3); clear hb3))
   go_ret2
   exact ⟨rfl, HB3.out⟩
  ·rw [if_neg c4] at hwv
   rw [hwv]
   have p1 : ((65536 : Int) < (E.size : Int)) = False := eq_false (by omega)
   clear hwv hlen hout hE hroot
   go_enter Tryz.func18, Tryz.ntmps18
   go_wp2_with (first | (go_at_call 20; refine (HCK.out _ (below_alloc (Below.refl _ _) _)).mono ?_; rintro e w2 ⟨rfl, hb2⟩; have hbx := blk_below (blk_new w (.cells #[.slice AN nn cN, .slice AD n cD] 27)) hb2; have u0 := (blk_cell hbx 0).trans (show _ = some (Value.slice AN nn cN) from rfl); have u1 := (blk_cell hbx 1).trans (show _ = some (Value.slice AD n cD) from rfl); have HB2 := Lib.hid (below_step (below_alloc (Below.refl w.heap.size w) _) hb2); clear hb2) | (go_at_call 44; refine (HEL.out _ HB2.out).mono ?_; rintro e w3 ⟨rfl, hb3⟩; have HB3 := Lib.hid (below_step HB2.out hb3); clear hb3))
   go_ret2
   exact ⟨rfl, HB3.out⟩
 ·have hwv : writeV N D = ((⟨#[]⟩ : ByteArray), checkV N D) := by unfold writeV; rw [if_neg c]
  rw [hwv]
  obtain ⟨E, hE⟩ : ∃ E, checkV N D = E := ⟨_, rfl⟩
  rw [hE] at HCK c ⊢
  have p1 : (E != 0) = true := by simpa using c
  clear hwv hE
  go_enter Tryz.func18, Tryz.ntmps18
  go_wp2_with (go_at_call 20; refine (HCK.out _ (below_alloc (Below.refl _ _) _)).mono ?_; rintro e w2 ⟨rfl, hb2⟩; have HB2 := Lib.hid (below_step (below_alloc (Below.refl w.heap.size w) _) hb2); clear hb2)
  go_ret2
  exact ⟨rfl, HB2.out⟩
end Go.Proofs.YtlhhhlimjajnlaaGreat.X
end
