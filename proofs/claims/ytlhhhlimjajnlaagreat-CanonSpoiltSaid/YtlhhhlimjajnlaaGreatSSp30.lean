/- Parts of the proof of canonSpoilt_holds, kept and merged by a program of mine (wip/tools/slim.py) out of my texts: ParD -/
import Derived.Lib.SlicesS
import Derived.Test.YtlhhhlimjajnlaaGreatSSp11
import Derived.Test.YtlhhhlimjajnlaaGreatSSp18
section
set_option linter.unusedVariables false
set_option linter.unusedSimpArgs false
namespace Go.Proofs.YtlhhhlimjajnlaaGreat.X
open Go.RowKit Go.Proofs.YtlhhhlimjajnlaaGreat Go.Proofs.YtlhhhlimjajnlaaGreat.Q Go.Proofs.YtlhhhlimjajnlaaGreatW.PrintWords Go.Proofs.YtlhhhlimjajnlaaGreatW.PrintLast Go.Proofs.YtlhhhlimjajnlaaGreatW.PrintMore
attribute [local go_sem] max2_int min2_int max_two min_two   
theorem contains_c {w : World} {g c base : Nat} {ok : Nat → Prop} {xs : List ByteArray} (h : Kd.R Kd.string 9 w base ok (.slice (some ⟨g, 0, none⟩) xs.length c) xs) (i : Nat) (hi : i ≤ xs.length) (hl : xs.length ≤ 1000000) (cc : Nat) (x : ByteArray) :
 Calls Tryz.prog 58 #[.slice (some ⟨g, i, none⟩) (xs.length - i) cc, .string x] w fun e w' => e = .returned (.bool ((xs.drop i).any fun a => a.data.toList == x.data.toList)) ∧ w' = w := by
 have hc := (Kd.R_reads' h).2.2
 have hany : ∀ l : List ByteArray, Lib.containsS l x = l.any fun a => a.data.toList == x.data.toList := by
  intro l
  rw [Bool.eq_iff_iff, Lib.containsS_iff, List.any_eq_true]
  constructor
  ·intro hm
   exact ⟨x, hm, beq_self_eq_true _⟩
  ·rintro ⟨a, ha, he⟩
   have : a = x := by
    apply ByteArray.ext; apply Array.ext'
    exact eq_of_beq he
   rw [← this]; exact ha
 have := Tryz.slices_Contains_string g i (xs.length - i) cc (xs.drop i) x w (by rw [List.length_drop]; exact Nat.le_refl _) (by omega) (by
  intro j hj
  rw [List.length_drop] at hj
  obtain ⟨ad', he, hx⟩ := Kd.at_string hc ((i + j : Nat) : Int) (by omega) (by omega)
  cases he
  rw [Int.toNat_natCast] at hx
  have e1 : (⟨g, 0, none⟩ : Addr).add (i + j) = ⟨g, i + j, none⟩ := by simp [Addr.add]; omega
  rw [← e1, hx]
  unfold rdOf
  rw [Int.toNat_natCast]
  congr 2
  rw [List.getD_eq_getElem?_getD, List.getD_eq_getElem?_getD, List.getElem?_drop, List.getElem?_eq_getElem (by omega)])
 rw [List.take_of_length_le (by rw [List.length_drop]; exact Nat.le_refl _), hany] at this
 exact this
set_option maxHeartbeats 16000000 in
set_option maxRecDepth 100000 in
theorem attr_c' {w0 w : World} {g : Nat} {v1 v2 v3 : Value} {p : PS} (h : Bd w0 w g v1 v2 v3 p) (hl : p.n.length ≤ 900000) (hl2 : p.s.length ≤ 900000) (hl3 : p.o.length ≤ 900000) (hp : 0 < p.s.length) (hI : topP p.o < (p.s.length : Int)) (hI0 : 0 ≤ topP p.o) (name v : ByteArray) :
 Calls Tryz.prog 27 #[.pointer (some ⟨g, 0, none⟩), .string name, .string v] w fun e w' => e = .returned (.tuple #[]) ∧ ∃ v1' v2' v3', Bd w0 w' g v1' v2' v3' (attrS p name v) := by
 have H := Lib.hid h
 have HL := Lib.hid (show p.n.length ≤ 1000000 by omega)
 have HL2 := Lib.hid (show p.s.length ≤ 1000000 by omega)
 have HL3 := Lib.hid (show p.o.length ≤ 1000000 by omega)
 obtain ⟨gb, cb, hv, -, -, -⟩ := Kd.R_form h.r2 hp
 subst hv
 obtain ⟨T, hT⟩ : ∃ T : Nat, (topP p.o + 1).toNat = T := ⟨_, rfl⟩
 have hT1 : topP p.o + 1 = (T : Int) := by omega
 have hTs : T ≤ p.s.length := by omega
 have hle := (Kd.R_reads' h.r2).2.1
 have hK1 : cb = T → ∀ (w' : World) (cc : Nat), Calls Tryz.prog 58 #[.slice (some ⟨gb, 0, none⟩) (p.s.length - T) cc, .string name] w' fun e w'' => e = .returned (.bool ((p.s.drop T).any fun a => a.data.toList == name.data.toList)) ∧ w'' = w' := by
  intro hcb w' cc
  rw [show p.s.length - T = 0 from by omega, List.drop_eq_nil_of_le (by omega)]
  exact Tryz.slices_Contains_string_empty _ _ name w'
 have hK : ∀ (w' : World) (cc : Nat), Kd.R Kd.string 9 w' w0.heap.size (fun _ => True) (.slice (some ⟨gb, 0, none⟩) p.s.length cb) p.s →
  Calls Tryz.prog 58 #[.slice (some ⟨gb, T, none⟩) (p.s.length - T) cc, .string name] w' fun e w'' => e = .returned (.bool ((p.s.drop T).any fun a => a.data.toList == name.data.toList)) ∧ w'' = w' := fun w' cc hr => contains_c hr T hTs HL2.out cc name
 clear hle
 obtain ⟨b, hb⟩ : ∃ b, ((p.s.drop T).any fun a => a.data.toList == name.data.toList) = b := ⟨_, rfl⟩
 unfold attrS
 rw [hT]
 rw [hb] at hK hK1 ⊢
 have e1 : IntKind.i64.wrap (topP p.o + 1) = (T : Int) := by have := HL2.out; rw [IntKind.wrap_i64]; omega
 have p1 : ((T : Int) ≤ (p.s.length : Int)) = True := eq_true (by omega)
 have hc1 := h.c1
 have hc5 := h.c5
 have hf5 := h.f 5
 have HE := Lib.hid (show ∀ m (z1 : Bool), Bd w0 ((w.drewN m).setCell ⟨g, 5, none⟩ (.bool z1)) g v1 _ v3 { p with wr := z1 } from fun m z1 => (h.drewN m).set { p with wr := z1 } rfl rfl rfl 5 (.bool z1) rfl)
 have HK := Lib.hid hK
 have HK1 := Lib.hid hK1
 have HE0 := Lib.hid (show ∀ (z1 : Bool), Bd w0 (w.setCell ⟨g, 5, none⟩ (.bool z1)) g v1 _ v3 { p with wr := z1 } from fun z1 => h.set { p with wr := z1 } rfl rfl rfl 5 (.bool z1) rfl)
 cases hw : p.wr with
 | true =>
  rw [hw] at hc5
  rw [Bool.true_or]
  clear h hl hl2 hl3 hI hI0 hT hT1 hTs hK hK1 hp hb
  go_enter Tryz.func27, Tryz.ntmps27
  go_wp2
  go_region
  all_goals
   go_wp2_with (go_at_call 57; refine (put_c (w0 := w0) (g := g) (p := PS.mk p.n p.s p.o p.x p.dp true) (by with_reducible first | exact HE0.out true | exact (HE0.out true).drew | exact HE.out _ true | exact (HE.out _ true).drew | exact ((HE.out _ true).drew).drew) HL.out HL2.out HL3.out 2 0 0 v name).mono ?_; rintro e w4 ⟨rfl, x1, x2, hv⟩)
   first | go_end0 | go_ret | ((try simp only [Exit.inBlock, Exit.then]); refine bodyPost_ret (results_none rfl _ _ _) rfl ?_)
   exact ⟨rfl, _, _, _, hv⟩
 | false =>
  rw [hw] at hc5
  rw [Bool.false_or]
  clear h hl hl2 hl3 hI hI0 hT hT1 hTs hK hK1 hp hb
  by_cases hcb : cb = T
  ·have HCB := Lib.hid hcb
   go_enter Tryz.func27, Tryz.ntmps27
   go_wp2
   go_region_with (first | (go_at_call 29; refine (top_c (w0 := w0) (g := g) (p := p) (by repeat (with_reducible first | exact H.out | apply Bd.drew | apply Bd.drewN)) HL3.out).mono ?_; rintro e w2 ⟨rfl, n, rfl⟩) | (go_at_call 58; first | (with_reducible refine (HK.out _ _ (by repeat (with_reducible first | exact H.out.r2 | apply Kd.R_drew | apply Kd.R_drewN))).mono ?_) | (with_reducible refine (HK1.out HCB.out _ _).mono ?_); rintro e w3 ⟨rfl, rfl⟩))
   all_goals
    go_wp2_with (go_at_call 57; refine (put_c (w0 := w0) (g := g) (p := PS.mk p.n p.s p.o p.x p.dp b) (by with_reducible first | exact HE0.out b | exact (HE0.out b).drew | exact HE.out _ b | exact (HE.out _ b).drew | exact ((HE.out _ b).drew).drew) HL.out HL2.out HL3.out 2 0 0 v name).mono ?_; rintro e w4 ⟨rfl, x1, x2, hv⟩)
    first | go_end0 | go_ret | ((try simp only [Exit.inBlock, Exit.then]); refine bodyPost_ret (results_none rfl _ _ _) rfl ?_)
    exact ⟨rfl, _, _, _, hv⟩
  ·have HCB := trivial
   go_enter Tryz.func27, Tryz.ntmps27
   go_wp2
   go_region_with (first | (go_at_call 29; refine (top_c (w0 := w0) (g := g) (p := p) (by repeat (with_reducible first | exact H.out | apply Bd.drew | apply Bd.drewN)) HL3.out).mono ?_; rintro e w2 ⟨rfl, n, rfl⟩) | (go_at_call 58; (with_reducible refine (HK.out _ _ (by repeat (with_reducible first | exact H.out.r2 | apply Kd.R_drew | apply Kd.R_drewN))).mono ?_); rintro e w3 ⟨rfl, rfl⟩))
   all_goals
    go_wp2_with (go_at_call 57; refine (put_c (w0 := w0) (g := g) (p := PS.mk p.n p.s p.o p.x p.dp b) (by with_reducible first | exact HE0.out b | exact (HE0.out b).drew | exact HE.out _ b | exact (HE.out _ b).drew | exact ((HE.out _ b).drew).drew) HL.out HL2.out HL3.out 2 0 0 v name).mono ?_; rintro e w4 ⟨rfl, x1, x2, hv⟩)
    first | go_end0 | go_ret | ((try simp only [Exit.inBlock, Exit.then]); refine bodyPost_ret (results_none rfl _ _ _) rfl ?_)
    exact ⟨rfl, _, _, _, hv⟩
end Go.Proofs.YtlhhhlimjajnlaaGreat.X
end
