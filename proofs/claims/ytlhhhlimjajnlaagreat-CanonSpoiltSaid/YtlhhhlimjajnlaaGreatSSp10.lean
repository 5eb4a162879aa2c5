/- Parts of the proof of canonSpoilt_holds, kept and merged by a program of mine (wip/tools/slim.py) out of my texts: Names Q33 -/
import Derived.Test.YtlhhhlimjajnlaaGreatSSp0
import Derived.Handy
import Derived.WalkMore
import Derived.Lib.Hide
import Derived.RowKit
import Derived.Test.YtlhhhlimjajnlaaGreatSSp5
import Derived.Test.YtlhhhlimjajnlaaGreatSSp6
import Derived.Test.YtlhhhlimjajnlaaGreatSSp1
import Derived.Test.YtlhhhlimjajnlaaGreatSSp4
section
set_option linter.unusedVariables false
set_option linter.unusedSimpArgs false
namespace Go.Proofs.YtlhhhlimjajnlaaGreat
open Go.RowKit
def runP (p : Int → Bool) (n : Int) : Nat → Int → Int
 | 0, i => i
 | d + 1, i => if 0 ≤ i ∧ i < n ∧ p i = true then runP p n d (i + 1) else i
def fromP (p : Int → Bool) (n : Int) (i : Int) : Int := runP p n (n - i).toNat i
theorem fromP_go {p : Int → Bool} {n i : Int} (h0 : 0 ≤ i) (h1 : i < n) (hp : p i = true) : fromP p n i = fromP p n (i + 1) := by
 unfold fromP
 obtain ⟨d, hd⟩ : ∃ d, (n - i).toNat = d + 1 := ⟨(n - i).toNat - 1, by omega⟩
 rw [hd, runP, if_pos ⟨h0, h1, hp⟩, show (n - (i + 1)).toNat = d from by omega]
theorem fromP_stop {p : Int → Bool} {n i : Int} (h : ¬ (0 ≤ i ∧ i < n ∧ p i = true)) : fromP p n i = i := by
 unfold fromP
 cases hd : (n - i).toNat with
 | zero => rfl
 | succ d => rw [runP, if_neg h]
set_option maxHeartbeats 1000000 in
set_option maxRecDepth 100000 in
theorem from_c (s : ByteArray) (i : Int) (K : Nat) (frees : Array Value) (p : Int → Bool) (w : World) (hsz : s.size ≤ 4294967296)
 (hK : ∀ (a : Array Value) (w : World), Sem.run Tryz.prog (callFunc K a) w = .ok (.enter K a) w)
 (hp : ∀ j : Int, 0 ≤ j → j < s.size → Calls Tryz.prog K (#[.int .i64 j] ++ frees) w fun e w' => e = .returned (.bool (p j)) ∧ w = w') :
 Calls Tryz.prog 85 #[.string s, .int .i64 i, .func (.func K) #[] frees] w fun e w' => e = .returned (.int .i64 (fromP p s.size i)) ∧ w = w' := by
 have HP := Lib.hid hp
 clear hp
 go_enter Tryz.func85, Tryz.ntmps85
 go_wp2
 go_loop [1] (fun t => ∃ j : Int, t = .int .i64 j ∧ (j = i ∨ (0 ≤ j ∧ j ≤ s.size)) ∧ Hid (fromP p s.size j = fromP p s.size i)) (fun t => (s.size - intOf t).toNat)
 case atStart => exact ⟨i, rfl, .inl rfl, Lib.hid rfl⟩
 case round =>
  obtain ⟨j, rfl, hj, hR⟩ := hrel
  by_cases h0 : 0 ≤ j
  ·by_cases h1 : j < (s.size : Int)
   ·have hc := HP.out j h0 h1
    by_cases hpj : p j = true
    ·have hR' : Hid (fromP p s.size (j + 1) = fromP p s.size i) := Lib.hid (by rw [← fromP_go h0 h1 hpj]; exact hR.out)
     rw [hpj] at hc
     have HC := Lib.hid hc
     clear hc hpj hR
     go_wp2_with (refine HC.out.mono ?_; rintro e w' ⟨rfl, rfl⟩)
     go_round
     case rel => exact ⟨j + 1, rfl, .inr ⟨by omega, by omega⟩, hR'⟩
     case measure => simp [intOf]; omega
    ·have hR' : Hid (fromP p s.size i = j) := Lib.hid (by rw [← hR.out, fromP_stop (fun h => hpj h.2.2)])
     have hpf : p j = false := by simpa using hpj
     rw [hpf] at hc
     have HC := Lib.hid hc
     clear hc hpj hpf hR
     go_wp2_with (refine HC.out.mono ?_; rintro e w' ⟨rfl, rfl⟩)
     go_ret
     exact ⟨by rw [hR'.out]; rfl, rfl⟩
   ·have hR' : Hid (fromP p s.size i = j) := Lib.hid (by rw [← hR.out, fromP_stop (fun h => h1 h.2.1)])
    clear hR
    have hd : decide (j < (s.size : Int)) = false := by simpa using h1
    go_wp2_with (fail)
    go_ret
    exact ⟨by rw [hR'.out]; rfl, rfl⟩
  ·have hR' : Hid (fromP p s.size i = j) := Lib.hid (by rw [← hR.out, fromP_stop (fun h => h0 h.1)])
   clear hR
   have hd : decide (0 ≤ j) = false := by simpa using h0
   go_wp2_with (fail)
   go_ret
   exact ⟨by rw [hR'.out]; rfl, rfl⟩
theorem enters57 (a : Array Value) (w : World) : Sem.run Tryz.prog (callFunc 103 a) w = .ok (.enter 103 a) w := by kernel_rfl
theorem enters58 (a : Array Value) (w : World) : Sem.run Tryz.prog (callFunc 86 a) w = .ok (.enter 86 a) w := by kernel_rfl
def byteAt (s : ByteArray) (i : Int) : UInt8 := s.data.toList.getD i.toNat 0
theorem byteAt_get (s : ByteArray) (i : Int) (h : i.toNat < s.size) : s[i.toNat]'h = byteAt s i := by
 unfold byteAt
 have hl : i.toNat < s.data.toList.length := by rw [← Lib.size_eq]; exact h
 rw [List.getD_eq_getElem?_getD, List.getElem?_eq_getElem hl]
 rfl
theorem ret_bool {a b : Bool} (h : a = b) : Ending.returned (.bool a) = .returned (.bool b) := by rw [h]
theorem space_num (c : UInt8) : decide (0 ≤ Lib.indexByte [32, 9, 10, 13] c) = spaceB c := by
 unfold spaceB
 by_cases h1 : c = 32
 ·subst h1; rfl
 by_cases h2 : c = 9
 ·subst h2; rfl
 by_cases h3 : c = 10
 ·subst h3; rfl
 by_cases h4 : c = 13
 ·subst h4; rfl
 have a1 : ¬ (32 = c) := fun e => h1 e.symm
 have a2 : ¬ (9 = c) := fun e => h2 e.symm
 have a3 : ¬ (10 = c) := fun e => h3 e.symm
 have a4 : ¬ (13 = c) := fun e => h4 e.symm
 have b1 : c.toNat ≠ 32 := fun e => h1 (UInt8.toNat_inj.1 e)
 have b2 : c.toNat ≠ 9 := fun e => h2 (UInt8.toNat_inj.1 e)
 have b3 : c.toNat ≠ 10 := fun e => h3 (UInt8.toNat_inj.1 e)
 have b4 : c.toNat ≠ 13 := fun e => h4 (UInt8.toNat_inj.1 e)
 simp [Lib.indexByte, a1, a2, a3, a4, b1, b2, b3, b4]
set_option maxHeartbeats 1000000 in
set_option maxRecDepth 100000 in
theorem space_c (c : UInt8) (w : World) : Calls Tryz.prog 87 #[.int .u8 c.toNat] w fun e w' => e = .returned (.bool (spaceB c)) ∧ w = w' := by
 go_enter Tryz.func87, Tryz.ntmps87
 go_wp2_with (go_at_call 112; refine (Tryz.strings_IndexByte _ _ _).mono ?_; rintro e w' ⟨rfl, rfl⟩)
 go_ret
 exact ⟨ret_bool (space_num c), rfl⟩
set_option maxHeartbeats 1000000 in
set_option maxRecDepth 100000 in
theorem skip1_c (s : ByteArray) (g : Nat) (i : Int) (h0 : 0 ≤ i) (h1 : i < s.size) (w : World) (hg : w.cell? ⟨g, 0, none⟩ = some (.string s)) :
 Calls Tryz.prog 86 #[.int .i64 i, .pointer (some ⟨g, 0, none⟩)] w fun e w' => e = .returned (.bool (spaceB (byteAt s i))) ∧ w = w' := by
 have hb := byteAt_get s i
 go_enter Tryz.func86, Tryz.ntmps86
 go_wp2_with (go_at_call 87; refine (space_c _ _).mono ?_; rintro e w' ⟨rfl, rfl⟩)
 go_ret
 exact ⟨rfl, rfl⟩
set_option maxHeartbeats 2000000 in
set_option maxRecDepth 100000 in
theorem nameEnd1_c (s : ByteArray) (g g' : Nat) (a i : Int) (h0 : 0 ≤ i) (h1 : i < s.size) (w : World) (hg : w.cell? ⟨g, 0, none⟩ = some (.string s)) (hg' : w.cell? ⟨g', 0, none⟩ = some (.int .i64 a)) :
 Calls Tryz.prog 103 #[.int .i64 i, .pointer (some ⟨g, 0, none⟩), .pointer (some ⟨g', 0, none⟩)] w fun e w' => e = .returned (.bool (nameB (byteAt s i) || (moreB (byteAt s i) && decide (a < i)))) ∧ w = w' := by
 have hb := byteAt_get s i
 go_enter Tryz.func103, Tryz.ntmps103
 go_wp2
 all_goals
  go_ret
  refine ⟨ret_bool ?_, rfl⟩
  unfold nameB moreB
  rw [Bool.eq_iff_iff]
  simp at *
  omega
theorem runP_list (q : UInt8 → Bool) (l : List UInt8) (d : Nat) : ∀ i : Nat, d = l.length - i → i < l.length → runP (fun j => q (l.getD j.toNat 0)) l.length d i = i + ((l.drop i).takeWhile q).length := by
 induction d with
 | zero => intro i h h1; omega
 | succ d ih =>
  intro i h h1
  rw [List.drop_eq_getElem_cons h1, runP]
  have hg : l.getD ((i : Int).toNat) 0 = l[i] := by rw [Int.toNat_natCast, List.getD_eq_getElem?_getD, List.getElem?_eq_getElem h1]; rfl
  by_cases hq : q l[i] = true
  ·rw [if_pos ⟨by omega, by omega, by simp only [hg]; exact hq⟩, List.takeWhile_cons_of_pos hq]
   by_cases h2 : i + 1 < l.length
   ·have := ih (i + 1) (by omega) h2
    rw [show ((i : Int) + 1) = ((i + 1 : Nat) : Int) from by omega, this]
    simp; omega
   ·have hd : d = 0 := by omega
    subst hd
    rw [runP, List.drop_of_length_le (by omega)]
    simp
  ·rw [if_neg (fun h => hq (by have := h.2.2; simp only [hg] at this; exact this)), List.takeWhile_cons_of_neg hq]
   simp
theorem fromP_list (q : UInt8 → Bool) (l : List UInt8) (i : Int) : fromP (fun j => q (l.getD j.toNat 0)) l.length i = if 0 ≤ i ∧ i < l.length then i + ((l.drop i.toNat).takeWhile q).length else i := by
 by_cases h : 0 ≤ i ∧ i < l.length
 ·rw [if_pos h]
  obtain ⟨n, rfl⟩ := Int.eq_ofNat_of_zero_le h.1
  have := runP_list q l (l.length - n) n rfl (by omega)
  unfold fromP
  rw [show ((l.length : Int) - (n : Int)).toNat = l.length - n from by omega, this, Int.toNat_natCast]
 ·rw [if_neg h, fromP_stop (fun h' => h ⟨h'.1, h'.2.1⟩)]
theorem runP_congr (p q : Int → Bool) (n : Int) (d : Nat) : ∀ i : Int, (∀ j, i ≤ j → p j = q j) → runP p n d i = runP q n d i := by
 induction d with
 | zero => intro i _; rfl
 | succ d ih =>
  intro i h
  rw [runP, runP, h i (by omega), ih (i + 1) (fun j hj => h j (by omega))]
theorem skip_spec (l : List UInt8) (i : Int) : fromP (fun j => spaceB (l.getD j.toNat 0)) l.length i = skipP l i := fromP_list _ _ _
theorem nameEnd_spec (l : List UInt8) (a : Int) : fromP (fun j => nameB (l.getD j.toNat 0) || (moreB (l.getD j.toNat 0) && decide (a < j))) l.length a = nameEndP l a := by
 unfold nameEndP
 by_cases h : 0 ≤ a ∧ a < l.length
 ·rw [if_pos h]
  have hlt : a.toNat < l.length := by omega
  rw [List.drop_eq_getElem_cons hlt]
  have hg : l.getD a.toNat 0 = l[a.toNat] := by rw [List.getD_eq_getElem?_getD, List.getElem?_eq_getElem hlt]; rfl
  simp only [nameLen]
  by_cases hn : nameB l[a.toNat] = true
  ·rw [if_pos hn, fromP_go h.1 h.2 (by simp only [hg, hn]; rfl)]
   have hc : fromP (fun j => nameB (l.getD j.toNat 0) || (moreB (l.getD j.toNat 0) && decide (a < j))) l.length (a + 1) = fromP (fun j => (fun d => nameB d || moreB d) (l.getD j.toNat 0)) l.length (a + 1) := by
    unfold fromP
    refine runP_congr _ _ _ _ _ fun j hj => ?_
    have : decide (a < j) = true := by simp; omega
    simp only [this, Bool.and_true]
   refine (hc.trans (fromP_list (fun d => nameB d || moreB d) l (a + 1))).trans ?_
   by_cases h2 : a + 1 < l.length
   ·rw [if_pos ⟨by omega, h2⟩, show (a + 1).toNat = a.toNat + 1 from by omega]
    omega
   ·rw [if_neg (fun h' => h2 h'.2), List.drop_of_length_le (by omega)]
    simp
  ·rw [if_neg hn, fromP_stop (fun h' => by
    have := h'.2.2
    simp only [hg] at this
    simp [hn] at this)]
   omega
 ·rw [if_neg h, fromP_stop (fun h' => h ⟨h'.1, h'.2.1⟩)]
set_option maxHeartbeats 2000000 in
set_option maxRecDepth 100000 in
theorem skip_c (s : ByteArray) (i : Int) (hsz : s.size ≤ 4294967296) (w : World) :
 Calls Tryz.prog 59 #[.string s, .int .i64 i] w fun e w' => e = .returned (.int .i64 (skipP s.data.toList i)) ∧ Below w.heap.size w w' := by
 have hfr := fun W => from_c s i 86 #[.pointer (some ⟨w.heap.size, 0, none⟩)] (fun j => spaceB (byteAt s j)) W hsz enters58
 have hfin : fromP (fun j => spaceB (byteAt s j)) s.size i = skipP s.data.toList i := by rw [Lib.size_eq]; exact skip_spec _ _
 rw [hfin] at hfr
 have HF := Lib.hid hfr
 clear hfr hfin
 go_enter Tryz.func59, Tryz.ntmps59
 go_wp2_with (go_at_call 85; refine (HF.out _ ?hp).mono ?_)
 case hp => intro j h0 h1; exact skip1_c s _ j h0 h1 _ (by simp)
 rintro e w' ⟨rfl, rfl⟩
 go_wp2
 go_ret
 exact ⟨rfl, by go_grown⟩
set_option maxHeartbeats 2000000 in
set_option maxRecDepth 100000 in
theorem nameEnd_c (s : ByteArray) (i : Int) (hsz : s.size ≤ 4294967296) (w : World) :
 Calls Tryz.prog 76 #[.string s, .int .i64 i] w fun e w' => e = .returned (.int .i64 (nameEndP s.data.toList i)) ∧ Below w.heap.size w w' := by
 have hfr := fun W => from_c s i 103 #[.pointer (some ⟨w.heap.size, 0, none⟩), .pointer (some ⟨w.heap.size + 1, 0, none⟩)] (fun j => nameB (byteAt s j) || (moreB (byteAt s j) && decide (i < j))) W hsz enters57
 have hfin : fromP (fun j => nameB (byteAt s j) || (moreB (byteAt s j) && decide (i < j))) s.size i = nameEndP s.data.toList i := by rw [Lib.size_eq]; exact nameEnd_spec _ _
 rw [hfin] at hfr
 have HF := Lib.hid hfr
 clear hfr hfin
 go_enter Tryz.func76, Tryz.ntmps76
 go_wp2_with (go_at_call 85; refine (HF.out _ ?hp).mono ?_)
 case hp => intro j h0 h1; exact nameEnd1_c s _ _ i j h0 h1 _ (by simp) (by simp)
 rintro e w' ⟨rfl, rfl⟩
 go_wp2
 go_ret
 exact ⟨rfl, by go_grown⟩
namespace X
open Go.Proofs.YtlhhhlimjajnlaaGreatW.PrintWords
def chars_Skip.f (a0 : ByteArray) (a1 : Int) : Option Int := if a0.size ≤ 4294967296 then some (skipP a0.data.toList a1) else none
theorem chars_Skip.calls (a0 : ByteArray) (a1 : Int) (r : Int) (w : World) (h : chars_Skip.f a0 a1 = some r) :
 Calls Tryz.prog 59 #[.string a0, .int .i64 a1] w fun e w' => e = .returned (.int .i64 r) ∧ Below w.heap.size w w' := by
 unfold chars_Skip.f at h
 split at h
 ·rename_i hs
  obtain rfl := Option.some.inj h
  exact skip_c a0 a1 hs w
 ·cases h
def chars_NameEnd.f (a0 : ByteArray) (a1 : Int) : Option Int := if a0.size ≤ 4294967296 then some (nameEndP a0.data.toList a1) else none
theorem chars_NameEnd.calls (a0 : ByteArray) (a1 : Int) (r : Int) (w : World) (h : chars_NameEnd.f a0 a1 = some r) :
 Calls Tryz.prog 76 #[.string a0, .int .i64 a1] w fun e w' => e = .returned (.int .i64 r) ∧ Below w.heap.size w w' := by
 unfold chars_NameEnd.f at h
 split at h
 ·rename_i hs
  obtain rfl := Option.some.inj h
  exact nameEnd_c a0 a1 hs w
 ·cases h
end X
end Go.Proofs.YtlhhhlimjajnlaaGreat
end
section
namespace Go.Proofs.YtlhhhlimjajnlaaGreat.X
end Go.Proofs.YtlhhhlimjajnlaaGreat.X
namespace Go.Proofs.YtlhhhlimjajnlaaGreat.Q
open Go.RowKit Go.Proofs.YtlhhhlimjajnlaaGreatW.PrintWords Go.Proofs.YtlhhhlimjajnlaaGreatW.PrintLast Go.Proofs.YtlhhhlimjajnlaaGreatW.PrintMore
attribute [local go_sem] max2_int min2_int max_two min_two max_three min_three max_four min_four   
open Go.Proofs.YtlhhhlimjajnlaaGreat.X
set_option linter.unusedVariables false
set_option linter.unusedSimpArgs false
def chars_Name.f (a0 : ByteArray) : Option (Bool) := if a0.toList = ([] : List UInt8) then (some false) else ((chars_NameEnd.f a0 0).bind fun t548 => (some (t548 == (a0.size : Int))))
set_option maxHeartbeats 8000000 in
set_option maxRecDepth 100000 in
theorem chars_Name.calls (a0 : ByteArray) (r : Bool) (w : World) (h : chars_Name.f a0 = some r) :
 Calls Tryz.prog 48 #[.string a0] w fun e w' => e = .returned (.bool r) ∧ Below w.heap.size w w' := by
 have HB := Aside0.mk (Below.refl w.heap.size w)
 have H : (if a0.toList = ([] : List UInt8) then (some false) else ((chars_NameEnd.f a0 0).bind fun t548 => (some (t548 == (a0.size : Int))))) = some r := h
 clear h
 by_cases c2 : a0.toList = ([] : List UInt8)
 ·rw [if_pos c2] at H
  have c2b0 : (a0.toList == ([] : List UInt8)) = true := beq_iff_eq.mpr c2
  have c2e : a0.toList.isEmpty = true := by have z_ := c2b0; simpa using z_
  have c2b1 : (a0.toList != ([] : List UInt8)) = false := bne_eq_false_iff_eq.mpr c2
  clear c2
  obtain rfl := Option.some.inj H
  go_enter Tryz.func48, Tryz.ntmps48
  go_wp2
  go_ret
  exact ⟨zz8, zz0⟩
 ·rw [if_neg c2] at H
  have c2b0 : (a0.toList == ([] : List UInt8)) = false := beq_eq_false_iff_ne.mpr c2
  have c2e : a0.toList.isEmpty = false := by have z_ := c2b0; simpa using z_
  have c2b1 : (a0.toList != ([] : List UInt8)) = true := bne_iff_ne.mpr c2
  replace H := Option.bind_eq_some_iff.mp H
  obtain ⟨t548, A30, H⟩ := H
  replace H : (some (t548 == (a0.size : Int))) = some r := H
  have A3 := Aside0.mk A30
  clear A30
  obtain rfl := Option.some.inj H
  go_enter Tryz.func48, Tryz.ntmps48
  go_wp2_with (first | (go_at_call 76; (with_reducible refine (chars_NameEnd.calls a0 0 t548 _ A3.out).mono ?_); rintro e w4 ⟨rfl, hb⟩; have n0_ := Aside0.mk (below_step (zz0) hb); clear HB; have HB := n0_; clear n0_; (try clear hb); (try clear hb2); (try clear hk); (try clear hi)))
  go_ret
  exact ⟨zz8, zz0⟩
end Go.Proofs.YtlhhhlimjajnlaaGreat.Q
end
