/- Parts of the proof of canonSpoilt_holds, kept and merged by a program of mine (wip/tools/slim.py) out of my texts: Rune Q8 -/
import Derived.Test.YtlhhhlimjajnlaaGreatSSp0
import Derived.Test.YtlhhhlimjajnlaaGreatProg
import Derived.Handy
import Derived.WalkMore
import Derived.Lib.Hide
import Derived.Lib.ConvBytes
import Derived.Test.YtlhhhlimjajnlaaGreatSSp5
import Derived.Test.YtlhhhlimjajnlaaGreatSSp13
import Derived.Test.YtlhhhlimjajnlaaGreatSSp1
import Derived.Test.YtlhhhlimjajnlaaGreatSSp4
section
set_option linter.unusedVariables false
set_option linter.unusedSimpArgs false
namespace Go.Proofs.YtlhhhlimjajnlaaGreat.Rune
open Go.RowKit Go.Proofs.YtlhhhlimjajnlaaGreat
theorem ret_bool {a b : Bool} (h : a = b) : Ending.returned (.bool a) = .returned (.bool b) := by rw [h]
theorem ret_int {k : IntKind} {a b : Int} (h : a = b) : Ending.returned (.int k a) = .returned (.int k b) := by rw [h]
theorem point_c (c : Int) (w : World) : Calls Tryz.prog 100 #[.int .i64 c] w fun e w' => e = .returned (.bool (pointB c)) ∧ w = w' := by
 go_enter Tryz.func100, Tryz.ntmps100
 go_wp2
 all_goals
  go_ret
  refine ⟨ret_bool ?_, rfl⟩
  unfold pointB
  rw [Bool.eq_iff_iff]
  simp
  omega
theorem size_c (c : Int) (w : World) : Calls Tryz.prog 101 #[.int .i64 c] w fun e w' => e = .returned (.int .i64 (sizeN c)) ∧ w = w' := by
 go_enter Tryz.func101, Tryz.ntmps101
 go_wp2
 all_goals
  go_ret
  refine ⟨ret_int ?_, rfl⟩
  unfold sizeN
  repeat' (split <;> try omega)
theorem lead_c (n : Int) (h1 : 1 ≤ n) (h5 : n ≤ 5) (w : World) : Calls Tryz.prog 99 #[.int .i64 n] w fun e w' => e = .returned (.int .i64 (leadN n)) ∧ w = w' := by
 obtain rfl | rfl | rfl | rfl | rfl : n = 1 ∨ n = 2 ∨ n = 3 ∨ n = 4 ∨ n = 5 := by omega
 all_goals
  go_enter Tryz.func99, Tryz.ntmps99
  go_wp2
  go_ret
  exact ⟨ret_int (by decide), rfl⟩
theorem and192 (x : Nat) (h : x < 256) : (Go.bits .and .u8 x 192 == 128) = decide (x / 64 = 2) := by
 have : ∀ y : Fin 256, (Go.bits .and .u8 (y.val : Int) 192 == 128) = decide (y.val / 64 = 2) := by decide +kernel
 exact this ⟨x, h⟩
theorem and192n (x : Nat) (h : x < 256) : (Go.bits .and .u8 x 192 != 128) = !decide (x / 64 = 2) := by
 rw [← and192 x h]; rfl
theorem bytesWorld_below (w : World) (e : TypeId) (S : ByteArray) : Below w.heap.size w (Lib.bytesWorld w e S) := by
 refine ⟨rfl, rfl, rfl, by rw [Lib.bytesWorld_size]; omega, fun i hi => Lib.bytesWorld_at_old w e S i hi⟩
def runeRes (c L : Int) : Int × Int := if pointB c && sizeN c == L then (c, L) else (-1, 0)
def RuneEnd (c L : Int) (w : World) (e : Ending) (w' : World) : Prop := e = .returned (.tuple #[.int .i64 (runeRes c L).1, .int .i64 (runeRes c L).2]) ∧ Below w.heap.size w w'
theorem runeEnd_ok {c L : Int} {w w' : World} (h1 : pointB c = true) (h2 : sizeN c = L) (hb : Below w.heap.size w w') : RuneEnd c L w (.returned (.tuple #[.int .i64 c, .int .i64 L])) w' := by
 unfold RuneEnd runeRes
 rw [h1, h2]
 exact ⟨by simp, hb⟩
theorem runeEnd_no {c L : Int} {w w' : World} (h : pointB c = false ∨ ¬ sizeN c = L) (hb : Below w.heap.size w w') : RuneEnd c L w (.returned (.tuple #[.int .i64 (-1), .int .i64 0])) w' := by
 unfold RuneEnd runeRes
 rcases h with h | h
 ·rw [h]; exact ⟨by simp, hb⟩
 ·have : (sizeN c == L) = false := by simpa using h
  rw [this, Bool.and_false]; exact ⟨by simp, hb⟩
set_option maxHeartbeats 4000000 in
set_option maxRecDepth 100000 in
theorem rune_n (s : ByteArray) (n L : Nat) (hn : n < s.size) (b : Int) (hb : wrap64 (s[n].toNat : Int) = b) (hL : (L = 1 ∧ 0 ≤ b ∧ b < 128) ∨ (L = 2 ∧ 192 ≤ b ∧ b < 224) ∨ (L = 3 ∧ 224 ≤ b ∧ b < 240) ∨ (L = 4 ∧ 240 ≤ b ∧ b < 248)) (hr : (L : Int) ≤ (s.size : Int) - n) (hs : s.size ≤ 4294967296)
 (S : ByteArray) (hSe : s.extract (n + 1) (n + L) = S) (hS : S.size = L - 1) (c0 : Int) (hc0 : c0 = b - leadN L) (w : World) :
 Calls Tryz.prog 73 #[.string s, .int .i64 n] w (RuneEnd (runeTail c0 S.data.toList) L w) := by
 have hcv : (convert 9 63 (.string S)).run Tryz.prog w = .ok (.slice (some ⟨w.heap.size, 0, none⟩) S.size (grownCap w S.size 0 5)) (Lib.bytesWorld w 5 S) :=
  Lib.run_convert_string_bytes w 9 63 5 S Tryz.underlying9 Tryz.underlying63 Tryz.underlying5
 have HC := Lib.hid hc0
 have HB : Hid (Below w.heap.size w (Lib.bytesWorld w 5 S)) := Lib.hid (bytesWorld_below w _ S)
 clear hc0
 have c1 : (0 : Int) ≤ (n : Int) + 1 := by omega
 rcases hL with ⟨rfl, h0, h1⟩ | hL
 ·have e0 : c0 = b := by have := HC.out; simp [leadN] at this; exact this
  have c2 : (n : Int) + 1 ≤ (s.size : Int) := by omega
  have hS0 : S = ByteArray.empty := by
   obtain ⟨⟨l⟩⟩ := S
   have : l.length = 0 := by simpa [ByteArray.size] using hS
   rw [List.eq_nil_of_length_eq_zero this]; rfl
  subst hS0
  have hcv0 : (convert 9 63 (.string ByteArray.empty)).run Tryz.prog w = .ok (.slice (some ⟨w.heap.size, 0, none⟩) 0 (grownCap w 0 0 5)) (Lib.bytesWorld w 5 ByteArray.empty) := hcv
  subst e0
  have hrt : runeTail c0 (ByteArray.empty.data.toList) = c0 := rfl
  rw [hrt]
  clear hS hcv hSe hrt
  go_enter Tryz.func73, Tryz.ntmps73
  go_wp2
  go_step3
  go_wp2_with (first
   | (go_at_call 99; refine (lead_c _ (by omega) (by omega) _).mono ?_; rintro e w' ⟨rfl, rfl⟩; simp only [leadN]))
  go_step3
  go_wp2_with (first
   | (go_at_call 99; refine (lead_c _ (by omega) (by omega) _).mono ?_; rintro e w' ⟨rfl, rfl⟩; simp only [leadN]))
  refine wp_loop_rounds 1 ?_
  rw [rounds_succ]
  go_wp2_with (first
   | (go_at_call 100; refine (point_c _ _).mono ?_; rintro e w' ⟨rfl, rfl⟩)
   | (go_at_call 101; refine (size_c _ _).mono ?_; rintro e w' ⟨rfl, rfl⟩))
  all_goals
   (try rw [Exit.noGoto_ret])
   go_ret2
   first
    | exact runeEnd_no (.inl (by simpa using ‹¬ pointB _ = true›)) HB.out
    | exact runeEnd_no (.inr (by simpa using ‹(sizeN _ != _) = true›)) HB.out
    | exact runeEnd_ok (by assumption) (by simpa using ‹(sizeN _ != _) = false›) HB.out
 ·have hfin : ∃ m : Nat, S.size = m ∧ L = m + 1 ∧ 1 ≤ m ∧ m ≤ 3 := ⟨L - 1, hS, by omega, by omega, by omega⟩
  have hcell : ∀ k : Nat, k < S.size → (Lib.bytesWorld w 5 S).cell? ⟨w.heap.size, k, none⟩ = some (.int .u8 (S.data.toList.getD k 0).toNat) := fun k hk => Lib.bytesWorld_cell w _ S k hk
  have HS := Lib.hid hcell
  have HL : Hid (0 ≤ c0 ∧ c0 < 32) := Lib.hid (by have := HC.out; rcases hL with ⟨rfl, h0, h1⟩ | ⟨rfl, h0, h1⟩ | ⟨rfl, h0, h1⟩ <;> simp [leadN] at this <;> omega)
  clear hcell
  rcases hL with ⟨rfl, h0, h1⟩ | ⟨rfl, h0, h1⟩ | ⟨rfl, h0, h1⟩
  all_goals
   have c2 : (n : Int) + 1 ≤ (s.size : Int) := by omega
   have c3 : (n : Int) + 2 ≤ (s.size : Int) := by omega
   have c4 : (0 : Int) ≤ (n : Int) + 2 := by omega
   try (have c5 : (n : Int) + 3 ≤ (s.size : Int) := by omega)
   try (have c6 : (n : Int) + 4 ≤ (s.size : Int) := by omega)
  all_goals
   have HR : Hid (runeTail c0 (S.data.toList.drop 0) = runeTail c0 S.data.toList) := Lib.hid rfl
   obtain ⟨R, hR⟩ : ∃ R, runeTail c0 S.data.toList = R := ⟨_, rfl⟩
   rw [hR] at HR ⊢
   have hcc := HC.out
   simp [leadN] at hcc
   subst hcc
   obtain ⟨m, hm⟩ : ∃ m, S.size = m := ⟨_, rfl⟩
   rw [hm] at hcv HS
   have hm' : m = _ := hm.symm.trans hS
   have HM := Lib.hid hm'
   have HM2 := Lib.hid hm
   clear hm hm' hS hR HC
   go_enter Tryz.func73, Tryz.ntmps73
   go_wp2
   go_step3
   go_wp2_with (first
    | (go_at_call 99; refine (lead_c _ (by omega) (by omega) _).mono ?_; rintro e w' ⟨rfl, rfl⟩; simp only [leadN]))
   go_step3
   go_wp2_with (first
    | (go_at_call 99; refine (lead_c _ (by omega) (by omega) _).mono ?_; rintro e w' ⟨rfl, rfl⟩; simp only [leadN]))
   go_loop [4, 60] (fun c t => ∃ (k : Nat) (ck : Int), k ≤ m ∧ c = .int .i64 ck ∧ t = .int .i64 k ∧ Hid (runeTail ck (S.data.toList.drop k) = R) ∧ 0 ≤ ck ∧ ck < 32 * 64 ^ k) (fun c t => (m - intOf t).toNat)
   case atStart => exact ⟨0, _, Nat.zero_le _, rfl, rfl, HR, HL.out.1, by have := HL.out.2; omega⟩
   case round =>
    clear HR HL
    obtain ⟨k, ck, hk, rfl, rfl, hR, hc0', hc1'⟩ := hrel
    by_cases hlt : k < m
    ·have hcl := HS.out k hlt
     have hkl : k < S.data.toList.length := by rw [← Lib.size_eq, HM2.out]; exact hlt
     obtain ⟨x, hx⟩ : ∃ x, S.data.toList.getD k 0 = x := ⟨_, rfl⟩
     rw [hx] at hcl
     have hd : S.data.toList.drop k = x :: S.data.toList.drop (k + 1) := by
      rw [List.drop_eq_getElem_cons hkl, ← hx, List.getD_eq_getElem?_getD, List.getElem?_eq_getElem hkl]; rfl
     rw [hd] at hR
     have hx2 : x.toNat < 256 := x.toNat_lt
     have hk3 : k ≤ 2 := by have := HM.out; omega
     have hbd : 32 * (64 : Int) ^ k ≤ 131072 := by
      obtain rfl | rfl | rfl : k = 0 ∨ k = 1 ∨ k = 2 := by omega
      all_goals decide
     have hb2 : ck < 131072 := by omega
     by_cases hg : x.toNat / 64 = 2
     ·have hR' : Hid (runeTail (ck * 64 + (x.toNat : Int) % 64) (S.data.toList.drop (k + 1)) = R) := Lib.hid (by
       have h := hR.out
       rw [runeTail, if_pos hg] at h
       rw [← h]; congr 1)
      have hn : Hid (ck * 64 + (x.toNat : Int) % 64 < 32 * 64 ^ (k + 1)) := Lib.hid (by rw [Int.pow_succ]; omega)
      have e0 : (Go.bits .and .u8 (x.toNat : Int) 192 != 128) = false := by rw [and192n _ hx2]; simp [hg]
      have e0' : (Go.bits .and .u8 (x.toNat : Int) 192 == 128) = true := by rw [and192 _ hx2]; simp [hg]
      have e1 : Go.bits .and .i64 (x.toNat : Int) 63 = (x.toNat : Int) % 64 := i64_and63 _ (by omega) (by omega)
      have e2 : Go.bits .or .i64 (ck * 64) ((x.toNat : Int) % 64) = ck * 64 + (x.toNat : Int) % 64 := i64_or6 _ _ (by omega) (by omega) (by omega) (by omega) (by omega)
      clear hR hd hx hg hbd hc1' hkl
      go_wp2
      go_round
      case rel => exact ⟨k + 1, _, by omega, rfl, by go_num, hR', by omega, hn.out⟩
      case measure => simp [intOf]; omega
     ·have hR' : R = -1 := by
       have h := hR.out
       rw [runeTail, if_neg hg] at h
       exact h.symm
      have e0 : (Go.bits .and .u8 (x.toNat : Int) 192 != 128) = true := by rw [and192n _ hx2]; simp [hg]
      have e0' : (Go.bits .and .u8 (x.toNat : Int) 192 == 128) = false := by rw [and192 _ hx2]; simp [hg]
      subst hR'
      clear hR hd hx hg hbd hc1' hkl
      go_wp2_with (first
       | (go_at_call 100; refine (point_c _ _).mono ?_; rintro e w' ⟨rfl, rfl⟩)
       | (go_at_call 101; refine (size_c _ _).mono ?_; rintro e w' ⟨rfl, rfl⟩))
      all_goals
       (try rw [Exit.noGoto_ret])
       go_ret2
       exact runeEnd_no (.inl (by decide)) HB.out
    ·have hkm : k = m := by omega
     have hR' : ck = R := by
      have h := hR.out
      rw [List.drop_of_length_le (by rw [← Lib.size_eq, HM2.out]; omega)] at h
      exact h
     subst hR'
     have hge : decide ((k : Int) < (m : Int)) = false := by simp; omega
     clear hR hkm hc1'
     go_wp2_with (first
      | (go_at_call 100; refine (point_c _ _).mono ?_; rintro e w' ⟨rfl, rfl⟩)
      | (go_at_call 101; refine (size_c _ _).mono ?_; rintro e w' ⟨rfl, rfl⟩))
     all_goals
      (try rw [Exit.noGoto_ret])
      go_ret2
      first
       | exact runeEnd_no (.inl (by simpa using ‹¬ pointB _ = true›)) HB.out
       | exact runeEnd_no (.inr (by simpa using ‹(sizeN _ != _) = true›)) HB.out
       | exact runeEnd_ok (by assumption) (by simpa using ‹(sizeN _ != _) = false›) HB.out
def NoRune (w : World) (e : Ending) (w' : World) : Prop := e = .returned (.tuple #[.int .i64 (-1), .int .i64 0]) ∧ Below w.heap.size w w'
set_option maxHeartbeats 2000000 in
set_option maxRecDepth 100000 in
theorem rune_out (s : ByteArray) (i : Int) (h : i < 0 ∨ (s.size : Int) ≤ i) (w : World) : Calls Tryz.prog 73 #[.string s, .int .i64 i] w (NoRune w) := by
 rcases h with h | h
 ·go_enter Tryz.func73, Tryz.ntmps73
  go_wp2
  go_step3
  go_wp2
  all_goals
   (try rw [Exit.noGoto_ret])
   go_ret2
   exact ⟨rfl, Below.refl _ _⟩
 ·by_cases h0 : i < 0
  ·go_enter Tryz.func73, Tryz.ntmps73
   go_wp2
   go_step3
   go_wp2
   all_goals
    (try rw [Exit.noGoto_ret])
    go_ret2
    exact ⟨rfl, Below.refl _ _⟩
  ·have h0' : decide (i < 0) = false := by simpa using h0
   go_enter Tryz.func73, Tryz.ntmps73
   go_wp2
   go_step3
   go_wp2
   all_goals
    (try rw [Exit.noGoto_ret])
    go_ret2
    exact ⟨rfl, Below.refl _ _⟩
set_option maxHeartbeats 2000000 in
set_option maxRecDepth 100000 in
theorem rune_bad (s : ByteArray) (n : Nat) (hn : n < s.size) (b : Int) (hb : wrap64 (s[n].toNat : Int) = b)
 (h : 248 ≤ b ∨ (128 ≤ b ∧ b < 192) ∨ (192 ≤ b ∧ b < 224 ∧ (s.size : Int) - n < 2) ∨ (224 ≤ b ∧ b < 240 ∧ (s.size : Int) - n < 3) ∨ (240 ≤ b ∧ b < 248 ∧ (s.size : Int) - n < 4)) (hs : s.size ≤ 4294967296) (w : World) :
 Calls Tryz.prog 73 #[.string s, .int .i64 n] w (NoRune w) := by
 rcases h with h | ⟨h, h1⟩ | ⟨h, h1, h2⟩ | ⟨h, h1, h2⟩ | ⟨h, h1, h2⟩
 all_goals
  go_enter Tryz.func73, Tryz.ntmps73
  go_wp2
  go_step3
  go_wp2_with (first
   | (go_at_call 99; refine (lead_c _ (by omega) (by omega) _).mono ?_; rintro e w' ⟨rfl, rfl⟩; simp only [leadN]))
  (try rw [Exit.noGoto_ret])
  go_ret2
  exact ⟨rfl, Below.refl _ _⟩
theorem drop_cons (s : ByteArray) (n : Nat) (hn : n < s.size) : s.data.toList.drop n = s[n] :: s.data.toList.drop (n + 1) := by
 have h : n < s.data.toList.length := by rw [← Lib.size_eq]; exact hn
 rw [List.drop_eq_getElem_cons h]; rfl
theorem rune_c (s : ByteArray) (i : Int) (hs : s.size ≤ 4294967296) (w : World) :
 Calls Tryz.prog 73 #[.string s, .int .i64 i] w fun e w' => e = .returned (.tuple #[.int .i64 (runeP s.data.toList i).1, .int .i64 (runeP s.data.toList i).2]) ∧ Below w.heap.size w w' := by
 have hlen : s.data.toList.length = s.size := (Lib.size_eq s).symm
 by_cases hi : 0 ≤ i ∧ i < s.size
 ·obtain ⟨n, rfl⟩ := Int.eq_ofNat_of_zero_le hi.1
  have hn : n < s.size := by omega
  have hp : runeP s.data.toList (n : Int) = decL (s.data.toList.drop n) := by
   unfold runeP
   rw [if_pos ⟨hi.1, by omega⟩, Int.toNat_natCast]
  obtain ⟨a, ha⟩ : ∃ a, s[n] = a := ⟨_, rfl⟩
  have hd := drop_cons s n hn
  rw [ha] at hd
  have hb : wrap64 (s[n].toNat : Int) = (a.toNat : Int) := by
   rw [ha]
   have := a.toNat_lt
   unfold wrap64; omega
  have hal := a.toNat_lt
  have htl : (s.data.toList.drop (n + 1)).length = s.size - (n + 1) := by rw [List.length_drop, hlen]
  rw [hp, hd]
  have hno : (decL (a :: s.data.toList.drop (n + 1)) = (-1, 0)) → Calls Tryz.prog 73 #[.string s, .int .i64 n] w (NoRune w) → Calls Tryz.prog 73 #[.string s, .int .i64 n] w fun e w' => e = .returned (.tuple #[.int .i64 (decL (a :: s.data.toList.drop (n + 1))).1, .int .i64 (decL (a :: s.data.toList.drop (n + 1))).2]) ∧ Below w.heap.size w w' := by
   intro h1 h2
   rw [h1]
   exact h2
  have hyes : ∀ L : Nat, runeLen a.toNat = L → ((L = 1 ∧ 0 ≤ (a.toNat : Int) ∧ (a.toNat : Int) < 128) ∨ (L = 2 ∧ 192 ≤ (a.toNat : Int) ∧ (a.toNat : Int) < 224) ∨ (L = 3 ∧ 224 ≤ (a.toNat : Int) ∧ (a.toNat : Int) < 240) ∨ (L = 4 ∧ 240 ≤ (a.toNat : Int) ∧ (a.toNat : Int) < 248)) → (L : Int) ≤ (s.size : Int) - n →
   Calls Tryz.prog 73 #[.string s, .int .i64 n] w fun e w' => e = .returned (.tuple #[.int .i64 (decL (a :: s.data.toList.drop (n + 1))).1, .int .i64 (decL (a :: s.data.toList.drop (n + 1))).2]) ∧ Below w.heap.size w w' := by
   intro L hL h1 h2
   have hSs : (s.extract (n + 1) (n + L)).size = L - 1 := by
    rw [Lib.size_eq, Lib.extract_data, List.length_take, List.length_drop, hlen]
    omega
   refine (rune_n s n L hn _ hb h1 h2 hs (s.extract (n + 1) (n + L)) rfl hSs _ rfl w).mono ?_
   rintro e w' ⟨he, hbw⟩
   refine ⟨?_, hbw⟩
   rw [he]
   have hS : (s.extract (n + 1) (n + L)).data.toList = (s.data.toList.drop (n + 1)).take (L - 1) := by
    rw [Lib.extract_data]; congr 1; omega
   have hdec : decL (a :: s.data.toList.drop (n + 1)) = runeRes (runeTail ((a.toNat : Int) - leadN L) (s.extract (n + 1) (n + L)).data.toList) L := by
    rw [decL, hL, if_neg (by omega), if_neg (by rw [htl]; omega), hS, show ((L : Int) - 1).toNat = L - 1 from by omega]
    rfl
   rw [hdec]
  by_cases g1 : 248 ≤ a.toNat
  ·exact hno (by rw [decL, if_pos (by unfold runeLen; rw [if_pos g1])]) (rune_bad s n hn _ hb (.inl (by omega)) hs w)
  by_cases g2 : 240 ≤ a.toNat
  ·have hl : runeLen a.toNat = 4 := by unfold runeLen; rw [if_neg g1, if_pos g2]
   by_cases g : (s.size : Int) - n < 4
   ·exact hno (by rw [decL, hl, if_neg (by omega), if_pos (by rw [htl]; omega)]) (rune_bad s n hn _ hb (.inr (.inr (.inr (.inr ⟨by omega, by omega, g⟩)))) hs w)
   ·exact hyes 4 hl (by omega) (by omega)
  by_cases g3 : 224 ≤ a.toNat
  ·have hl : runeLen a.toNat = 3 := by unfold runeLen; rw [if_neg g1, if_neg g2, if_pos g3]
   by_cases g : (s.size : Int) - n < 3
   ·exact hno (by rw [decL, hl, if_neg (by omega), if_pos (by rw [htl]; omega)]) (rune_bad s n hn _ hb (.inr (.inr (.inr (.inl ⟨by omega, by omega, g⟩)))) hs w)
   ·exact hyes 3 hl (by omega) (by omega)
  by_cases g4 : 192 ≤ a.toNat
  ·have hl : runeLen a.toNat = 2 := by unfold runeLen; rw [if_neg g1, if_neg g2, if_neg g3, if_pos g4]
   by_cases g : (s.size : Int) - n < 2
   ·exact hno (by rw [decL, hl, if_neg (by omega), if_pos (by rw [htl]; omega)]) (rune_bad s n hn _ hb (.inr (.inr (.inl ⟨by omega, by omega, g⟩))) hs w)
   ·exact hyes 2 hl (by omega) (by omega)
  by_cases g5 : 128 ≤ a.toNat
  ·exact hno (by rw [decL, if_pos (by unfold runeLen; rw [if_neg g1, if_neg g2, if_neg g3, if_neg g4, if_pos g5])]) (rune_bad s n hn _ hb (.inr (.inl ⟨by omega, by omega⟩)) hs w)
  ·exact hyes 1 (by unfold runeLen; rw [if_neg g1, if_neg g2, if_neg g3, if_neg g4, if_neg g5]; rfl) (by omega) (by omega)
 ·have hp : runeP s.data.toList i = (-1, 0) := by
   unfold runeP
   rw [if_neg (fun h => hi ⟨h.1, by omega⟩)]
  rw [hp]
  exact rune_out s i (by omega) w
end Go.Proofs.YtlhhhlimjajnlaaGreat.Rune
namespace Go.Proofs.YtlhhhlimjajnlaaGreat.X
open Go.RowKit Go.Proofs.YtlhhhlimjajnlaaGreatW.PrintWords
def chars_Rune.f (a0 : ByteArray) (a1 : Int) : Option (Int × Int) := if a0.size ≤ 4294967296 then some (runeP a0.data.toList a1) else none
theorem chars_Rune.calls (a0 : ByteArray) (a1 : Int) (r1 r2 : Int) (w : World) (h : chars_Rune.f a0 a1 = some (r1, r2)) :
 Calls Tryz.prog 73 #[.string a0, .int .i64 a1] w fun e w' => e = .returned (.tuple #[.int .i64 r1, .int .i64 r2]) ∧ Below w.heap.size w w' := by
 unfold chars_Rune.f at h
 split at h
 ·rename_i hs
  have he := Option.some.inj h
  have := Rune.rune_c a0 a1 hs w
  rw [he] at this
  exact this
 ·cases h
end Go.Proofs.YtlhhhlimjajnlaaGreat.X
end
section
namespace Go.Proofs.YtlhhhlimjajnlaaGreat.X
end Go.Proofs.YtlhhhlimjajnlaaGreat.X
namespace Go.Proofs.YtlhhhlimjajnlaaGreat.Q
open Go.RowKit Go.Proofs.YtlhhhlimjajnlaaGreatW.PrintWords Go.Proofs.YtlhhhlimjajnlaaGreatW.PrintLast Go.Proofs.YtlhhhlimjajnlaaGreatW.PrintMore
attribute [local go_sem] max2_int min2_int max_two min_two max_three min_three max_four min_four   
open Go.Proofs.YtlhhhlimjajnlaaGreat.X
set_option linter.unusedVariables false
set_option linter.unusedSimpArgs false
def chars_Valid.l0 : Nat → ByteArray → Option (Bool)
 | 0, _ => none
 | k + 1, x0 => if (x0.size : Int) > 0 then ((chars_Rune.f x0 0).bind fun bt142 => (if bt142.2 = 0 then (some false) else ((chars_Allowed.f k bt142.1).bind fun t144 => (if t144 = true then (if 0 ≤ bt142.2 then (if bt142.2 ≤ (x0.size : Int) then (chars_Valid.l0 k (x0.extract (bt142.2 : Int).toNat x0.size)) else (none)) else (none)) else (some false))))) else (some true)
def chars_Valid.f (k : Nat) (a0 : ByteArray) : Option (Bool) := chars_Valid.l0 k a0
set_option maxHeartbeats 8000000 in
set_option maxRecDepth 100000 in
theorem chars_Valid.calls (k : Nat) (a0 : ByteArray) (r : Bool) (w : World) (h : chars_Valid.f k a0 = some r) :
 Calls Tryz.prog 46 #[.string a0] w fun e w' => e = .returned (.bool r) ∧ Below w.heap.size w w' := by
 have HB := Aside0.mk (Below.refl w.heap.size w)
 have H : (chars_Valid.l0 k a0) = some r := h
 clear h
 have H' := Aside0.mk H
 clear H
 go_enter Tryz.func46, Tryz.ntmps46
 go_wp2
 go_loopg [0] k (fun kq v0 w' => ∃ (x0_1 : ByteArray), v0 = .string x0_1 ∧ Aside0 (chars_Valid.l0 kq x0_1 = some r) ∧ Aside0 (kq ≤ k) ∧ Aside0 (Below w.heap.size w w'))
 case atStart => exact ⟨(a0), (zz5), H', ⟨Nat.le_refl _⟩, ⟨zz0⟩⟩
 case round =>
  clear H'
  obtain ⟨x0_1, rfl, HA, HK1, HB⟩ := hrel
  cases gk with
  | zero => exact absurd HA.out (by simp [chars_Valid.l0])
  | succ k1 =>
   have H := HA.out
   clear HA
   simp only [chars_Valid.l0] at H
   by_cases c2 : (x0_1.size : Int) > 0
   ·rw [if_pos c2] at H
    have c2b0 : decide (0 < (x0_1.size : Int)) = true := decide_eq_true c2
    have c2b1 : decide (0 < x0_1.size) = true := decide_eq_true (by omega)
    clear c2
    replace H := Option.bind_eq_some_iff.mp H
    obtain ⟨⟨t142, t143⟩, A30, H⟩ := H
    replace H : (if t143 = 0 then (some false) else ((chars_Allowed.f k1 t142).bind fun t144 => (if t144 = true then (if 0 ≤ t143 then (if t143 ≤ (x0_1.size : Int) then (chars_Valid.l0 k1 (x0_1.extract (t143 : Int).toNat x0_1.size)) else (none)) else (none)) else (some false)))) = some r := H
    have A3 := Aside0.mk A30
    clear A30
    by_cases c4 : t143 = 0
    ·rw [if_pos c4] at H
     have c4b0 : (t143 == 0) = true := beq_iff_eq.mpr c4
     have c4b1 : (t143 != 0) = false := bne_eq_false_iff_eq.mpr c4
     clear c4
     obtain rfl := Option.some.inj H
     go_wp2_with (first | ((with_reducible refine gate_callee (f := 73) rfl ?_); refine goesL_ (some 10) rfl rfl Tryz.func73 (by kernel_rfl) rfl #[.string x0_1, .int .i64 0] rfl (zz4) ?_; (with_reducible refine (chars_Rune.calls x0_1 0 t142 t143 _ A3.out).mono ?_); rintro e w5 ⟨rfl, hb⟩; refine ⟨_, rfl, ?_⟩; have n0_ := Aside0.mk (below_step (zz0) hb); clear HB; have HB := n0_; clear n0_; (try clear hb); (try clear hb2); (try clear hk); (try clear hi)))
     go_ret
     exact ⟨zz8, zz0⟩
    ·rw [if_neg c4] at H
     have c4b0 : (t143 == 0) = false := beq_eq_false_iff_ne.mpr c4
     have c4b1 : (t143 != 0) = true := bne_iff_ne.mpr c4
     replace H := Option.bind_eq_some_iff.mp H
     obtain ⟨t144, A60, H⟩ := H
     replace H : (if t144 = true then (if 0 ≤ t143 then (if t143 ≤ (x0_1.size : Int) then (chars_Valid.l0 k1 (x0_1.extract (t143 : Int).toNat x0_1.size)) else (none)) else (none)) else (some false)) = some r := H
     have A6 := Aside0.mk A60
     clear A60
     by_cases c7 : t144 = true
     ·subst c7
      have H1 : (if 0 ≤ t143 then (if t143 ≤ (x0_1.size : Int) then (chars_Valid.l0 k1 (x0_1.extract (t143 : Int).toNat x0_1.size)) else (none)) else (none)) = some r := by rw [if_pos rfl] at H; exact H
      clear H
      have H := H1
      clear H1
      by_cases c8 : 0 ≤ t143
      ·rw [if_pos c8] at H
       have c8b0 := eq_true c8
       have c8b1 : decide (0 ≤ t143) = true := decide_eq_true c8
       clear c8
       by_cases c9 : t143 ≤ (x0_1.size : Int)
       ·rw [if_pos c9] at H
        have c9b0 := eq_true c9
        have c9b1 : decide (t143 ≤ (x0_1.size : Int)) = true := decide_eq_true c9
        clear c9
        have H' := Aside0.mk H
        clear H
        go_wp2_with (first | ((with_reducible refine gate_callee (f := 73) rfl ?_); refine goesL_ (some 10) rfl rfl Tryz.func73 (by kernel_rfl) rfl #[.string x0_1, .int .i64 0] rfl (zz4) ?_; (with_reducible refine (chars_Rune.calls x0_1 0 t142 t143 _ A3.out).mono ?_); rintro e w10 ⟨rfl, hb⟩; refine ⟨_, rfl, ?_⟩; have n0_ := Aside0.mk (below_step (zz0) hb); clear HB; have HB := n0_; clear n0_; (try clear hb); (try clear hb2); (try clear hk); (try clear hi)) | (go_at_call 74; (with_reducible refine (chars_Allowed.calls k1 t142 true _ A6.out).mono ?_); rintro e w' ⟨rfl, ⟨nd, rfl⟩⟩))
        go_roundg k1
        case measure => have := HK1.out; omega
        case rel => exact ⟨(x0_1.extract (t143 : Int).toNat x0_1.size), (zz5), H', ⟨zz36⟩, ⟨zz0⟩⟩
       ·rw [if_neg c9] at H
        exact absurd H (by simp)
      ·rw [if_neg c8] at H
       exact absurd H (by simp)
     ·replace c7 := Bool.eq_false_iff.mpr c7
      subst c7
      have H1 : (some false) = some r := by rw [if_neg (show ¬ (false = true) by decide)] at H; exact H
      clear H
      have H := H1
      clear H1
      obtain rfl := Option.some.inj H
      go_wp2_with (first | ((with_reducible refine gate_callee (f := 73) rfl ?_); refine goesL_ (some 10) rfl rfl Tryz.func73 (by kernel_rfl) rfl #[.string x0_1, .int .i64 0] rfl (zz4) ?_; (with_reducible refine (chars_Rune.calls x0_1 0 t142 t143 _ A3.out).mono ?_); rintro e w11 ⟨rfl, hb⟩; refine ⟨_, rfl, ?_⟩; have n0_ := Aside0.mk (below_step (zz0) hb); clear HB; have HB := n0_; clear n0_; (try clear hb); (try clear hb2); (try clear hk); (try clear hi)) | (go_at_call 74; (with_reducible refine (chars_Allowed.calls k1 t142 false _ A6.out).mono ?_); rintro e w' ⟨rfl, ⟨nd, rfl⟩⟩))
      go_ret
      exact ⟨zz8, zz0⟩
   ·rw [if_neg c2] at H
    have c2b0 : decide (0 < (x0_1.size : Int)) = false := decide_eq_false c2
    have c2b1 : decide (0 < x0_1.size) = false := decide_eq_false (by omega)
    clear c2
    obtain rfl := Option.some.inj H
    go_wp2
    go_ret
    exact ⟨zz8, zz0⟩
end Go.Proofs.YtlhhhlimjajnlaaGreat.Q
end
