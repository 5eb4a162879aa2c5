/- Parts of the proof of canonSpoilt_holds, kept and merged by a program of mine (wip/tools/slim.py) out of my texts: RefE Q14 P11e -/
import Derived.Test.YtlhhhlimjajnlaaGreatSSp0
import Derived.Handy
import Derived.WalkMore
import Derived.Lib.Hide
import Derived.BigQuiet
import Derived.Deep.QuietTactic
import Derived.Deep.RegionHeld3
import Derived.Deep.RegionWith
import Derived.Test.YtlhhhlimjajnlaaGreatSSp21
import Derived.Test.YtlhhhlimjajnlaaGreatSSp4
import Derived.Test.YtlhhhlimjajnlaaGreatSSp20
import Derived.Test.YtlhhhlimjajnlaaGreatSSp5
section
set_option linter.unusedVariables false
set_option linter.unusedSimpArgs false
namespace Go.Proofs.YtlhhhlimjajnlaaGreat.RefE
open Go Go.RowKit Go.Proofs.YtlhhhlimjajnlaaGreat Go.Proofs.YtlhhhlimjajnlaaGreat.Q Go.Proofs.YtlhhhlimjajnlaaGreat.P11 Go.Proofs.YtlhhhlimjajnlaaGreatW.PrintWords
def entNames : List (List UInt8) := [[38, 108, 116, 59], [38, 103, 116, 59], [38, 97, 109, 112, 59], [38, 113, 117, 111, 116, 59], [38, 97, 112, 111, 115, 59]]
def entChars : List UInt8 := [60, 62, 38, 34, 39]
def entMarks : List (List UInt8) := [[38, 35, 120], [38, 35]]
def entBase (j : Nat) : Int := if j = 0 then 16 else 10
def numAt (l : List UInt8) (i : Int) (j : Nat) : Int × Int := numS l (i + (entMarks.getD j []).length) (entBase j)
def goodAt (l : List UInt8) (i : Int) (j : Nat) : Bool := decide (0 < (numAt l i j).2) && allowedB (numAt l i j).1
def markFrom (l : List UInt8) (i : Int) : Nat → Nat → List UInt8 × Int
 | 0, _ => ([], 0)
 | d + 1, j => if begB l i (entMarks.getD j []) && goodAt l i j then (encL (numAt l i j).1, ((entMarks.getD j []).length : Int) + (numAt l i j).2 + 1) else markFrom l i d (j + 1)
def nameFrom (l : List UInt8) (i : Int) : Nat → Nat → List UInt8 × Int
 | 0, _ => markFrom l i 2 0
 | d + 1, j => if begB l i (entNames.getD j []) then ([entChars.getD j 0], (entNames.getD j []).length) else nameFrom l i d (j + 1)
def refEnt (l : List UInt8) (i : Int) : List UInt8 × Int := nameFrom l i 5 0
theorem ret_si {s : ByteArray} {k : IntKind} {a b : Int} (h : a = b) : Ending.returned (.tuple #[.string s, .int k a]) = .returned (.tuple #[.string s, .int k b]) := by rw [h]
def EntEnd (R : List UInt8 × Int) (w : World) (e : Ending) (w' : World) : Prop := e = .returned (.tuple #[.string ⟨R.1.toArray⟩, .int .i64 R.2]) ∧ Below w.heap.size w w'
theorem begins_c (s : ByteArray) (i : Int) (t : ByteArray) (b : Bool) (w : World) (hs : s.size ≤ 4294967296) (ht : t.size ≤ 4294967296) (h : begB s.data.toList i t.data.toList = b) :
 Calls Tryz.prog 137 #[.string s, .int .i64 i, .string t] w fun e w' => e = .returned (.bool b) ∧ Drawn0 w w' :=
 R1_begins.calls s i t b w (by rw [begins_f s i t hs ht, h])
theorem number_c (s : ByteArray) (i base n k : Int) (w : World) (hb : 0 < base ∧ base ≤ 16) (hs : s.size ≤ 4294967296) (h0 : 0 ≤ i) (h1 : i ≤ s.size) (h : numS s.data.toList i base = (n, k)) :
 Calls Tryz.prog 138 #[.string s, .int .i64 i, .int .i64 base] w fun e w' => e = .returned (.tuple #[.int .i64 n, .int .i64 k]) ∧ Drawn0 w w' :=
 R1_number.calls 64 s i base n k w (by rw [number_f s i base hb hs h0 h1, h])
theorem allowed_c (c : Int) (b : Bool) (w : World) (h : allowedB c = b) : Calls Tryz.prog 92 #[.int .i64 c] w fun e w' => e = .returned (.bool b) ∧ Drawn0 w w' :=
 R1_Allowed.calls c b w (by rw [allowed_f, h])
theorem encode_c (c : Int) (w : World) : Calls Tryz.prog 116 #[.int .i64 c] w fun e w' => e = .returned (.string ⟨(encL c).toArray⟩) ∧ Below w.heap.size w w' :=
 R1_Encode.calls c _ w (encode_f c)
theorem begB_in {l : List UInt8} {i : Int} {t : List UInt8} (h : begB l i t = true) : 0 ≤ i ∧ i + t.length ≤ l.length := by
 unfold begB at h
 simp only [Bool.and_eq_true, decide_eq_true_eq] at h
 have := (List.isPrefixOf_iff_prefix.1 h.2).length_le
 rw [List.length_drop] at this
 omega
theorem numGo_le (base : Int) (j : Nat) : ∀ (l : List UInt8) (n i : Int), 0 ≤ i → (numGo base j l n i).2 ≤ i + j := by
 induction j with
 | zero => intro l n i h; rw [numGo]; simp; omega
 | succ j ih =>
  intro l n i h
  cases l with
  | nil => rw [numGo]; simp; omega
  | cons c t =>
   rw [numGo]
   split
   ·simp; omega
   ·split
    ·simp; omega
    ·have := ih t (n * base + d99 c.toNat) (i + 1) (by omega)
     omega
theorem numS_le {l : List UInt8} {i base v k : Int} (h : numS l i base = (v, k)) : k ≤ 9 := by
 have := numGo_le base 9 (l.drop i.toNat) 0 0 (by omega)
 unfold numS at h
 rw [h] at this
 simpa using this
theorem quiet_at {P : Program} {f : FuncId} {args : Array Value} {w : World} {a n : Nat} {v : Value} (h : Calls P f args (w.drewN (a + n)) fun e w' => e = .returned v ∧ Drawn0 (w.drewN (a + n)) w') :
 Calls P f args (w.drewN (a + n)) fun e w'' => e = .returned v ∧ ∃ m, w'' = w.drewN (a + m) :=
 h.mono fun _ _ ⟨he, hd⟩ => by
  obtain ⟨m, hm⟩ := hd.out
  exact ⟨he, n + m, by rw [hm, World.drewN_drewN, Nat.add_assoc]⟩
theorem cell_third (w : World) (o1 o2 o4 : Obj) (cs : Array Value) (T : TypeId) (n j : Nat) (v : Value) (h : cs[j]? = some v) :
 (((((w.alloc o1).alloc o2).alloc (.cells cs T)).alloc o4).drewN n).drew.cell? ⟨w.heap.size + 1 + 1, j, none⟩ = some v := by
 show ((((w.alloc o1).alloc o2).alloc (.cells cs T)).alloc o4).cell? ⟨w.heap.size + 1 + 1, j, none⟩ = some v
 rw [World.cell?_alloc_lt _ _ _ (by simp)]
 have hb := blk_new ((w.alloc o1).alloc o2) (.cells cs T)
 have hsz : ((w.alloc o1).alloc o2).heap.size = w.heap.size + 1 + 1 := by simp
 rw [hsz] at hb
 rw [blk_cell hb, h]
set_option maxHeartbeats 4000000 in
set_option maxRecDepth 100000 in
theorem entity_c (s : ByteArray) (i : Int) (hs : s.size ≤ 4294967296) (w : World) :
 Calls Tryz.prog 118 #[.string s, .int .i64 i] w (EntEnd (refEnt s.data.toList i) w) := by
 obtain ⟨R, hR⟩ : ∃ R, refEnt s.data.toList i = R := ⟨_, rfl⟩
 rw [hR]
 have HR : Hid (nameFrom s.data.toList i (5 - 0) 0 = R) := Lib.hid hR
 clear hR
 go_enter Tryz.func118, Tryz.ntmps118
 go_wp2
 go_loopw [4, 5, 8] (fun r4 r5 t wr => ∃ (j n : Nat), j ≤ 5 ∧ r4 = .string ⟨#[]⟩ ∧ r5 = .int .i64 0 ∧ t = .int .i64 j ∧ wr = ((w.alloc (.cells #[.string ⟨#[38, 108, 116, 59]⟩, .string ⟨#[38, 103, 116, 59]⟩, .string ⟨#[38, 97, 109, 112, 59]⟩, .string ⟨#[38, 113, 117, 111, 116, 59]⟩, .string ⟨#[38, 97, 112, 111, 115, 59]⟩] 150)).alloc (.cells #[.string ⟨#[60]⟩, .string ⟨#[62]⟩, .string ⟨#[38]⟩, .string ⟨#[34]⟩, .string ⟨#[39]⟩] 150)).drewN n ∧ Hid (nameFrom s.data.toList i (5 - j) j = R)) (fun _ _ t wr => 5 - (intOf t).toNat)
 case atStart => exact ⟨0, 0, by omega, rfl, rfl, rfl, rfl, HR⟩
 case round =>
  clear HR
  obtain ⟨j, nd, hj, rfl, rfl, rfl, rfl, hR⟩ := hrel
  have hbel : Hid (Below w.heap.size w ((w.alloc (.cells #[.string ⟨#[38, 108, 116, 59]⟩, .string ⟨#[38, 103, 116, 59]⟩, .string ⟨#[38, 97, 109, 112, 59]⟩, .string ⟨#[38, 113, 117, 111, 116, 59]⟩, .string ⟨#[38, 97, 112, 111, 115, 59]⟩] 150)).alloc (.cells #[.string ⟨#[60]⟩, .string ⟨#[62]⟩, .string ⟨#[38]⟩, .string ⟨#[34]⟩, .string ⟨#[39]⟩] 150))) := Lib.hid (((Below.refl _ _).alloc (Nat.le_refl _) _).alloc (by simp) _)
  by_cases hj5 : j = 5
  ·subst hj5
   have HR2 : Hid (markFrom s.data.toList i (2 - 0) 0 = R) := Lib.hid (by rw [← hR.out]; rfl)
   have hbel2 : Hid (Below w.heap.size w ((((w.alloc (.cells #[.string ⟨#[38, 108, 116, 59]⟩, .string ⟨#[38, 103, 116, 59]⟩, .string ⟨#[38, 97, 109, 112, 59]⟩, .string ⟨#[38, 113, 117, 111, 116, 59]⟩, .string ⟨#[38, 97, 112, 111, 115, 59]⟩] 150)).alloc (.cells #[.string ⟨#[60]⟩, .string ⟨#[62]⟩, .string ⟨#[38]⟩, .string ⟨#[34]⟩, .string ⟨#[39]⟩] 150)).alloc (.cells #[.string ⟨#[38, 35, 120]⟩, .string ⟨#[38, 35]⟩] 151)).alloc (.cells #[.int .i64 16, .int .i64 10] 152))) := Lib.hid ((hbel.out.alloc (by simp; omega) _).alloc (by simp; omega) _)
   clear hR hbel hj
   rw [show ((5 : Nat) : Int) = 5 from rfl]
   go_wp2
   go_loopw [4, 5, 12] (fun r4 r5 t wr => ∃ (j n : Nat), j ≤ 2 ∧ r4 = .string ⟨#[]⟩ ∧ r5 = .int .i64 0 ∧ t = .int .i64 j ∧ wr = ((((w.alloc (.cells #[.string ⟨#[38, 108, 116, 59]⟩, .string ⟨#[38, 103, 116, 59]⟩, .string ⟨#[38, 97, 109, 112, 59]⟩, .string ⟨#[38, 113, 117, 111, 116, 59]⟩, .string ⟨#[38, 97, 112, 111, 115, 59]⟩] 150)).alloc (.cells #[.string ⟨#[60]⟩, .string ⟨#[62]⟩, .string ⟨#[38]⟩, .string ⟨#[34]⟩, .string ⟨#[39]⟩] 150)).alloc (.cells #[.string ⟨#[38, 35, 120]⟩, .string ⟨#[38, 35]⟩] 151)).alloc (.cells #[.int .i64 16, .int .i64 10] 152)).drewN n ∧ Hid (markFrom s.data.toList i (2 - j) j = R)) (fun _ _ t wr => 2 - (intOf t).toNat)
   case atStart => exact ⟨0, nd, by omega, rfl, rfl, rfl, rfl, HR2⟩
   case round =>
    clear HR2
    obtain ⟨j, nd2, hj, rfl, rfl, rfl, rfl, hR⟩ := hrel
    by_cases hj2 : j = 2
    ·subst hj2
     have hRe : R = ([], 0) := hR.out.symm
     subst hRe
     clear hR
     go_wp2
     go_ret2
     exact ⟨rfl, by repeat (first | exact hbel2.out | refine pw_below_drewN ?_ _)⟩
    ·obtain rfl | rfl : j = 0 ∨ j = 1 := by omega
     ·by_cases hb : begB s.data.toList i (ByteArray.mk #[38, 35, 120]).data.toList = true
      ·have hin : 0 ≤ i ∧ i + 3 ≤ s.size := begB_in hb
       have hw : IntKind.i64.wrap (i + 3) = i + 3 := zz15
       obtain ⟨v, k, hnk⟩ : ∃ v k, numS s.data.toList (i + 3) 16 = (v, k) := ⟨_, _, rfl⟩
       have HN := Lib.hid hnk
       by_cases hg : (decide (0 < k) && allowedB v) = true
       ·have hRe : R = (encL v, 3 + k + 1) := by
         rw [← hR.out]
         show (if (begB s.data.toList i [38, 35, 120] && goodAt s.data.toList i 0) = true then (encL (numAt s.data.toList i 0).1, (3 : Int) + (numAt s.data.toList i 0).2 + 1) else _) = _
         have hna : numAt s.data.toList i 0 = (v, k) := hnk
         have hga : goodAt s.data.toList i 0 = true := by unfold goodAt; rw [hna]; exact hg
         rw [hga, show begB s.data.toList i [38, 35, 120] = true from hb, hna]
         rfl
        subst hRe
        have hk0 : 0 < k := by simp at hg; exact hg.1
        have hka : allowedB v = true := by simp at hg; exact hg.2
        have hk9 : k ≤ 9 := numS_le hnk
        have HA := Lib.hid hka
        have HB := Lib.hid hb
        clear hR hb hnk hg hka hj2
        go_wp2_with (go_at_call 137; refine (begins_c s i _ true _ hs (by decide) HB.out).mono ?_; rintro e w' ⟨rfl, ⟨⟨n1, rfl⟩⟩⟩)
        go_quiet ((go_at_call 138; exact quiet_at (number_c s _ _ v k _ (by decide) hs (by omega) (by omega) HN.out)))
        go_wp2_with (go_at_call 92; refine (allowed_c v true _ HA.out).mono ?_; rintro e w' ⟨rfl, ⟨⟨n2, rfl⟩⟩⟩)
        go_region_held3 (fun W => W.cell? ⟨w.heap.size + 1 + 1, 0, none⟩ = some (.string ⟨#[38, 35, 120]⟩)) (first | exact cell_third _ _ _ _ _ _ _ _ _ rfl | exact pw_cell_below (by assumption) (by assumption) | go_keep | (refine (HB1.cell ?_).trans ?_ <;> simp; done) | (refine (HB1.cell ?_).trans ?_ <;> simp [World.cell?_alloc_some]; done)) ((go_at_call 116; refine (encode_c v _).mono ?_; rintro e w1 ⟨rfl, HB1⟩))
        go_wp2
        have hwk : IntKind.i64.wrap (IntKind.i64.wrap (3 + k) + 1) = 3 + k + 1 := by rw [IntKind.wrap_i64, IntKind.wrap_i64]; omega
        go_ret2
        exact zz29
       ·have hR' : Hid (markFrom s.data.toList i (2 - 1) 1 = R) := Lib.hid (by
         rw [← hR.out]
         show _ = (if (begB s.data.toList i [38, 35, 120] && goodAt s.data.toList i 0) = true then _ else _)
         have hna : numAt s.data.toList i 0 = (v, k) := hnk
         have hga : goodAt s.data.toList i 0 = false := by unfold goodAt; rw [hna]; simpa using hg
         rw [hga, Bool.and_false, if_neg (by decide)])
        have HB := Lib.hid hb
        obtain ⟨b, hbv⟩ : ∃ b, allowedB v = b := ⟨_, rfl⟩
        have HA := Lib.hid hbv
        have hcase : (0 < k ∧ b = false) ∨ ¬ 0 < k := by
         by_cases h0 : 0 < k
         ·refine .inl ⟨h0, ?_⟩
          rw [← hbv]
          simpa [h0] using hg
         ·exact .inr h0
        clear hR hb hnk hg hbv hj2
        rcases hcase with ⟨h0, rfl⟩ | h0
        ·go_wp2_with (go_at_call 137; refine (begins_c s i _ true _ hs (by decide) HB.out).mono ?_; rintro e w' ⟨rfl, ⟨⟨n1, rfl⟩⟩⟩)
         go_quiet ((go_at_call 138; exact quiet_at (number_c s _ _ v k _ (by decide) hs (by omega) (by omega) HN.out)))
         go_wp2_with (go_at_call 92; refine (allowed_c v false _ HA.out).mono ?_; rintro e w' ⟨rfl, ⟨⟨n2, rfl⟩⟩⟩)
         go_roundw
         case rel => exact ⟨1, _, by omega, rfl, rfl, rfl, rfl, hR'⟩
         case measure => simp [intOf]
        ·have hd : decide (0 < k) = false := by simpa using h0
         go_wp2_with (go_at_call 137; refine (begins_c s i _ true _ hs (by decide) HB.out).mono ?_; rintro e w' ⟨rfl, ⟨⟨n1, rfl⟩⟩⟩)
         go_quiet ((go_at_call 138; exact quiet_at (number_c s _ _ v k _ (by decide) hs (by omega) (by omega) HN.out)))
         go_wp2_with (go_at_call 92; refine (allowed_c v b _ HA.out).mono ?_; rintro e w' ⟨rfl, ⟨⟨n2, rfl⟩⟩⟩)
         go_roundw
         case rel => exact ⟨1, _, by omega, rfl, rfl, rfl, rfl, hR'⟩
         case measure => simp [intOf]
      ·have hb' : begB s.data.toList i (ByteArray.mk #[38, 35, 120]).data.toList = false := by simpa using hb
       have hR' : Hid (markFrom s.data.toList i (2 - 1) 1 = R) := Lib.hid (by
        rw [← hR.out]
        show _ = (if (begB s.data.toList i [38, 35, 120] && goodAt s.data.toList i 0) = true then _ else _)
        rw [show begB s.data.toList i [38, 35, 120] = false from hb', Bool.false_and, if_neg (by decide)])
       have HB := Lib.hid hb'
       clear hb hb' hR hj2
       go_wp2_with (go_at_call 137; refine (begins_c s i _ false _ hs (by decide) HB.out).mono ?_; rintro e w' ⟨rfl, ⟨⟨n1, rfl⟩⟩⟩)
       go_roundw
       case rel => exact ⟨1, _, by omega, rfl, rfl, rfl, rfl, hR'⟩
       case measure => simp [intOf]
     ·by_cases hb : begB s.data.toList i (ByteArray.mk #[38, 35]).data.toList = true
      ·have hin : 0 ≤ i ∧ i + 2 ≤ s.size := begB_in hb
       have hw : IntKind.i64.wrap (i + 2) = i + 2 := zz15
       obtain ⟨v, k, hnk⟩ : ∃ v k, numS s.data.toList (i + 2) 10 = (v, k) := ⟨_, _, rfl⟩
       have HN := Lib.hid hnk
       by_cases hg : (decide (0 < k) && allowedB v) = true
       ·have hRe : R = (encL v, 2 + k + 1) := by
         rw [← hR.out]
         show (if (begB s.data.toList i [38, 35] && goodAt s.data.toList i 1) = true then (encL (numAt s.data.toList i 1).1, (2 : Int) + (numAt s.data.toList i 1).2 + 1) else _) = _
         have hna : numAt s.data.toList i 1 = (v, k) := hnk
         have hga : goodAt s.data.toList i 1 = true := by unfold goodAt; rw [hna]; exact hg
         rw [hga, show begB s.data.toList i [38, 35] = true from hb, hna]
         rfl
        subst hRe
        have hk0 : 0 < k := by simp at hg; exact hg.1
        have hka : allowedB v = true := by simp at hg; exact hg.2
        have hk9 : k ≤ 9 := numS_le hnk
        have HA := Lib.hid hka
        have HB := Lib.hid hb
        clear hR hb hnk hg hka hj2
        go_wp2_with (go_at_call 137; refine (begins_c s i _ true _ hs (by decide) HB.out).mono ?_; rintro e w' ⟨rfl, ⟨⟨n1, rfl⟩⟩⟩)
        go_quiet ((go_at_call 138; exact quiet_at (number_c s _ _ v k _ (by decide) hs (by omega) (by omega) HN.out)))
        go_wp2_with (go_at_call 92; refine (allowed_c v true _ HA.out).mono ?_; rintro e w' ⟨rfl, ⟨⟨n2, rfl⟩⟩⟩)
        go_region_held3 (fun W => W.cell? ⟨w.heap.size + 1 + 1, 1, none⟩ = some (.string ⟨#[38, 35]⟩)) (first | exact cell_third _ _ _ _ _ _ _ _ _ rfl | exact pw_cell_below (by assumption) (by assumption) | go_keep | (refine (HB1.cell ?_).trans ?_ <;> simp; done) | (refine (HB1.cell ?_).trans ?_ <;> simp [World.cell?_alloc_some]; done)) ((go_at_call 116; refine (encode_c v _).mono ?_; rintro e w1 ⟨rfl, HB1⟩))
        go_wp2
        have hwk : IntKind.i64.wrap (IntKind.i64.wrap (2 + k) + 1) = 2 + k + 1 := by rw [IntKind.wrap_i64, IntKind.wrap_i64]; omega
        go_ret2
        exact zz29
       ·have hR' : Hid (markFrom s.data.toList i (2 - 2) 2 = R) := Lib.hid (by
         rw [← hR.out]
         show _ = (if (begB s.data.toList i [38, 35] && goodAt s.data.toList i 1) = true then _ else _)
         have hna : numAt s.data.toList i 1 = (v, k) := hnk
         have hga : goodAt s.data.toList i 1 = false := by unfold goodAt; rw [hna]; simpa using hg
         rw [hga, Bool.and_false, if_neg (by decide)])
        have HB := Lib.hid hb
        obtain ⟨b, hbv⟩ : ∃ b, allowedB v = b := ⟨_, rfl⟩
        have HA := Lib.hid hbv
        have hcase : (0 < k ∧ b = false) ∨ ¬ 0 < k := by
         by_cases h0 : 0 < k
         ·refine .inl ⟨h0, ?_⟩
          rw [← hbv]
          simpa [h0] using hg
         ·exact .inr h0
        clear hR hb hnk hg hbv hj2
        rcases hcase with ⟨h0, rfl⟩ | h0
        ·go_wp2_with (go_at_call 137; refine (begins_c s i _ true _ hs (by decide) HB.out).mono ?_; rintro e w' ⟨rfl, ⟨⟨n1, rfl⟩⟩⟩)
         go_quiet ((go_at_call 138; exact quiet_at (number_c s _ _ v k _ (by decide) hs (by omega) (by omega) HN.out)))
         go_wp2_with (go_at_call 92; refine (allowed_c v false _ HA.out).mono ?_; rintro e w' ⟨rfl, ⟨⟨n2, rfl⟩⟩⟩)
         go_roundw
         case rel => exact ⟨2, _, by omega, rfl, rfl, rfl, rfl, hR'⟩
         case measure => simp [intOf]
        ·have hd : decide (0 < k) = false := by simpa using h0
         go_wp2_with (go_at_call 137; refine (begins_c s i _ true _ hs (by decide) HB.out).mono ?_; rintro e w' ⟨rfl, ⟨⟨n1, rfl⟩⟩⟩)
         go_quiet ((go_at_call 138; exact quiet_at (number_c s _ _ v k _ (by decide) hs (by omega) (by omega) HN.out)))
         go_wp2_with (go_at_call 92; refine (allowed_c v b _ HA.out).mono ?_; rintro e w' ⟨rfl, ⟨⟨n2, rfl⟩⟩⟩)
         go_roundw
         case rel => exact ⟨2, _, by omega, rfl, rfl, rfl, rfl, hR'⟩
         case measure => simp [intOf]
      ·have hb' : begB s.data.toList i (ByteArray.mk #[38, 35]).data.toList = false := by simpa using hb
       have hR' : Hid (markFrom s.data.toList i (2 - 2) 2 = R) := Lib.hid (by
        rw [← hR.out]
        show _ = (if (begB s.data.toList i [38, 35] && goodAt s.data.toList i 1) = true then _ else _)
        rw [show begB s.data.toList i [38, 35] = false from hb', Bool.false_and, if_neg (by decide)])
       have HB := Lib.hid hb'
       clear hb hb' hR hj2
       go_wp2_with (go_at_call 137; refine (begins_c s i _ false _ hs (by decide) HB.out).mono ?_; rintro e w' ⟨rfl, ⟨⟨n1, rfl⟩⟩⟩)
       go_roundw
       case rel => exact ⟨2, _, by omega, rfl, rfl, rfl, rfl, hR'⟩
       case measure => simp [intOf]
  ·obtain rfl | rfl | rfl | rfl | rfl : j = 0 ∨ j = 1 ∨ j = 2 ∨ j = 3 ∨ j = 4 := by omega
   ·by_cases hb : begB s.data.toList i (ByteArray.mk #[38, 108, 116, 59]).data.toList = true
    ·have hRe : R = ([60], 4) := by
      rw [← hR.out]
      show (if begB s.data.toList i [38, 108, 116, 59] then _ else _) = _
      rw [if_pos hb]; rfl
     subst hRe
     clear hR
     have HB := Lib.hid hb
     clear hb
     go_wp2_with (go_at_call 137; refine (begins_c s i _ true _ hs (by decide) HB.out).mono ?_; rintro e w' ⟨rfl, ⟨⟨n1, rfl⟩⟩⟩)
     go_quiet (fail)
     go_wp2
     go_ret2
     exact zz30
    ·have hb' : begB s.data.toList i (ByteArray.mk #[38, 108, 116, 59]).data.toList = false := by simpa using hb
     have hR' : Hid (nameFrom s.data.toList i (5 - 1) 1 = R) := Lib.hid (by
      rw [← hR.out]
      show _ = (if begB s.data.toList i [38, 108, 116, 59] then _ else _)
      rw [if_neg hb])
     have HB := Lib.hid hb'
     clear hb hb' hR hj5
     go_wp2_with (go_at_call 137; refine (begins_c s i _ false _ hs (by decide) HB.out).mono ?_; rintro e w' ⟨rfl, ⟨⟨n1, rfl⟩⟩⟩)
     go_roundw
     case rel => exact ⟨1, _, by omega, rfl, rfl, rfl, rfl, hR'⟩
     case measure => simp [intOf]
   ·by_cases hb : begB s.data.toList i (ByteArray.mk #[38, 103, 116, 59]).data.toList = true
    ·have hRe : R = ([62], 4) := by
      rw [← hR.out]
      show (if begB s.data.toList i [38, 103, 116, 59] then _ else _) = _
      rw [if_pos hb]; rfl
     subst hRe
     clear hR
     have HB := Lib.hid hb
     clear hb
     go_wp2_with (go_at_call 137; refine (begins_c s i _ true _ hs (by decide) HB.out).mono ?_; rintro e w' ⟨rfl, ⟨⟨n1, rfl⟩⟩⟩)
     go_quiet (fail)
     go_wp2
     go_ret2
     exact zz30
    ·have hb' : begB s.data.toList i (ByteArray.mk #[38, 103, 116, 59]).data.toList = false := by simpa using hb
     have hR' : Hid (nameFrom s.data.toList i (5 - 2) 2 = R) := Lib.hid (by
      rw [← hR.out]
      show _ = (if begB s.data.toList i [38, 103, 116, 59] then _ else _)
      rw [if_neg hb])
     have HB := Lib.hid hb'
     clear hb hb' hR hj5
     go_wp2_with (go_at_call 137; refine (begins_c s i _ false _ hs (by decide) HB.out).mono ?_; rintro e w' ⟨rfl, ⟨⟨n1, rfl⟩⟩⟩)
     go_roundw
     case rel => exact ⟨2, _, by omega, rfl, rfl, rfl, rfl, hR'⟩
     case measure => simp [intOf]
   ·by_cases hb : begB s.data.toList i (ByteArray.mk #[38, 97, 109, 112, 59]).data.toList = true
    ·have hRe : R = ([38], 5) := by
      rw [← hR.out]
      show (if begB s.data.toList i [38, 97, 109, 112, 59] then _ else _) = _
      rw [if_pos hb]; rfl
     subst hRe
     clear hR
     have HB := Lib.hid hb
     clear hb
     go_wp2_with (go_at_call 137; refine (begins_c s i _ true _ hs (by decide) HB.out).mono ?_; rintro e w' ⟨rfl, ⟨⟨n1, rfl⟩⟩⟩)
     go_quiet (fail)
     go_wp2
     go_ret2
     exact zz30
    ·have hb' : begB s.data.toList i (ByteArray.mk #[38, 97, 109, 112, 59]).data.toList = false := by simpa using hb
     have hR' : Hid (nameFrom s.data.toList i (5 - 3) 3 = R) := Lib.hid (by
      rw [← hR.out]
      show _ = (if begB s.data.toList i [38, 97, 109, 112, 59] then _ else _)
      rw [if_neg hb])
     have HB := Lib.hid hb'
     clear hb hb' hR hj5
     go_wp2_with (go_at_call 137; refine (begins_c s i _ false _ hs (by decide) HB.out).mono ?_; rintro e w' ⟨rfl, ⟨⟨n1, rfl⟩⟩⟩)
     go_roundw
     case rel => exact ⟨3, _, by omega, rfl, rfl, rfl, rfl, hR'⟩
     case measure => simp [intOf]
   ·by_cases hb : begB s.data.toList i (ByteArray.mk #[38, 113, 117, 111, 116, 59]).data.toList = true
    ·have hRe : R = ([34], 6) := by
      rw [← hR.out]
      show (if begB s.data.toList i [38, 113, 117, 111, 116, 59] then _ else _) = _
      rw [if_pos hb]; rfl
     subst hRe
     clear hR
     have HB := Lib.hid hb
     clear hb
     go_wp2_with (go_at_call 137; refine (begins_c s i _ true _ hs (by decide) HB.out).mono ?_; rintro e w' ⟨rfl, ⟨⟨n1, rfl⟩⟩⟩)
     go_quiet (fail)
     go_wp2
     go_ret2
     exact zz30
    ·have hb' : begB s.data.toList i (ByteArray.mk #[38, 113, 117, 111, 116, 59]).data.toList = false := by simpa using hb
     have hR' : Hid (nameFrom s.data.toList i (5 - 4) 4 = R) := Lib.hid (by
      rw [← hR.out]
      show _ = (if begB s.data.toList i [38, 113, 117, 111, 116, 59] then _ else _)
      rw [if_neg hb])
     have HB := Lib.hid hb'
     clear hb hb' hR hj5
     go_wp2_with (go_at_call 137; refine (begins_c s i _ false _ hs (by decide) HB.out).mono ?_; rintro e w' ⟨rfl, ⟨⟨n1, rfl⟩⟩⟩)
     go_roundw
     case rel => exact ⟨4, _, by omega, rfl, rfl, rfl, rfl, hR'⟩
     case measure => simp [intOf]
   ·by_cases hb : begB s.data.toList i (ByteArray.mk #[38, 97, 112, 111, 115, 59]).data.toList = true
    ·have hRe : R = ([39], 6) := by
      rw [← hR.out]
      show (if begB s.data.toList i [38, 97, 112, 111, 115, 59] then _ else _) = _
      rw [if_pos hb]; rfl
     subst hRe
     clear hR
     have HB := Lib.hid hb
     clear hb
     go_wp2_with (go_at_call 137; refine (begins_c s i _ true _ hs (by decide) HB.out).mono ?_; rintro e w' ⟨rfl, ⟨⟨n1, rfl⟩⟩⟩)
     go_quiet (fail)
     go_wp2
     go_ret2
     exact zz30
    ·have hb' : begB s.data.toList i (ByteArray.mk #[38, 97, 112, 111, 115, 59]).data.toList = false := by simpa using hb
     have hR' : Hid (nameFrom s.data.toList i (5 - 5) 5 = R) := Lib.hid (by
      rw [← hR.out]
      show _ = (if begB s.data.toList i [38, 97, 112, 111, 115, 59] then _ else _)
      rw [if_neg hb])
     have HB := Lib.hid hb'
     clear hb hb' hR hj5
     go_wp2_with (go_at_call 137; refine (begins_c s i _ false _ hs (by decide) HB.out).mono ?_; rintro e w' ⟨rfl, ⟨⟨n1, rfl⟩⟩⟩)
     go_roundw
     case rel => exact ⟨5, _, by omega, rfl, rfl, rfl, rfl, hR'⟩
     case measure => simp [intOf]
end Go.Proofs.YtlhhhlimjajnlaaGreat.RefE
namespace Go.Proofs.YtlhhhlimjajnlaaGreat.X
open Go.RowKit Go.Proofs.YtlhhhlimjajnlaaGreatW.PrintWords
def R1_Entity.f (a0 : ByteArray) (a1 : Int) : Option (ByteArray × Int) := if a0.size ≤ 4294967296 then some (⟨(RefE.refEnt a0.data.toList a1).1.toArray⟩, (RefE.refEnt a0.data.toList a1).2) else none
theorem R1_Entity.calls (a0 : ByteArray) (a1 : Int) (r1 : ByteArray) (r2 : Int) (w : World) (h : R1_Entity.f a0 a1 = some (r1, r2)) :
 Calls Tryz.prog 118 #[.string a0, .int .i64 a1] w fun e w' => e = .returned (.tuple #[.string r1, .int .i64 r2]) ∧ Below w.heap.size w w' := by
 unfold R1_Entity.f at h
 split at h
 ·rename_i hs
  simp only [Option.some.injEq, Prod.mk.injEq] at h
  obtain ⟨rfl, rfl⟩ := h
  exact RefE.entity_c a0 a1 hs w
 ·cases h
end Go.Proofs.YtlhhhlimjajnlaaGreat.X
end
section
namespace Go.Proofs.YtlhhhlimjajnlaaGreat.X
end Go.Proofs.YtlhhhlimjajnlaaGreat.X
namespace Go.Proofs.YtlhhhlimjajnlaaGreat.Q
open Go.RowKit Go.Proofs.YtlhhhlimjajnlaaGreatW.PrintWords Go.Proofs.YtlhhhlimjajnlaaGreatW.PrintLast Go.Proofs.YtlhhhlimjajnlaaGreatW.PrintMore
attribute [local go_sem] max2_int min2_int max_two min_two max_three min_three max_four min_four   
open Go.Proofs.YtlhhhlimjajnlaaGreat.X
set_option linter.unusedVariables false
set_option linter.unusedSimpArgs false
def R2_decoded.l0 : Nat → ByteArray → ByteArray → Int → Option (ByteArray × Bool)
 | 0, _, _, _ => none
 | k + 1, x0, x4, x5 => if x5 < (x0.size : Int) then (if 0 ≤ x5 then (if (bt x0 x5) = 38 then ((R1_Entity.f x0 x5).bind fun bt172 => (if bt172.2 = 0 then (some ((⟨#[]⟩ : ByteArray), false)) else (if x4.size + bt172.1.size ≤ 9223372036854775807 then (R2_decoded.l0 k x0 (x4 ++ bt172.1) (wrap64 (x5 + bt172.2))) else (none)))) else (if x5 ≤ (wrap64 (x5 + 1)) then (if (wrap64 (x5 + 1)) ≤ (x0.size : Int) then (if x4.size + (x0.extract (x5 : Int).toNat ((wrap64 (x5 + 1)) : Int).toNat).size ≤ 9223372036854775807 then (R2_decoded.l0 k x0 (x4 ++ (x0.extract (x5 : Int).toNat ((wrap64 (x5 + 1)) : Int).toNat)) (wrap64 (x5 + 1))) else (none)) else (none)) else (none))) else (none)) else (some (x4, true))
def R2_decoded.f (k : Nat) (a0 : ByteArray) : Option (ByteArray × Bool) := R2_decoded.l0 k a0 (⟨#[]⟩ : ByteArray) 0
set_option maxHeartbeats 8000000 in
set_option maxRecDepth 100000 in
theorem R2_decoded.calls (k : Nat) (a0 : ByteArray) (r1 : ByteArray) (r2 : Bool) (w : World) (h : R2_decoded.f k a0 = some (r1, r2)) :
 Calls Tryz.prog 96 #[.string a0] w fun e w' => e = .returned (.tuple #[.string r1, .bool r2]) ∧ Below w.heap.size w w' := by
 have HB := Aside0.mk (Below.refl w.heap.size w)
 have H : (R2_decoded.l0 k a0 (⟨#[]⟩ : ByteArray) 0) = some (r1, r2) := h
 clear h
 have H' := Aside0.mk H
 clear H
 go_enter Tryz.func96, Tryz.ntmps96
 go_wp2
 go_loopg [4, 5] k (fun kq v4 v5 w' => ∃ (x4_1 : ByteArray) (x5_1 : Int), v4 = .string x4_1 ∧ v5 = .int .i64 x5_1 ∧ Aside0 (R2_decoded.l0 kq a0 x4_1 x5_1 = some (r1, r2)) ∧ Aside0 (kq ≤ k) ∧ Aside0 (Below w.heap.size w w'))
 case atStart => exact ⟨((⟨#[]⟩ : ByteArray)), (0), (by rfl), (by rfl), H', ⟨Nat.le_refl _⟩, ⟨zz7⟩⟩
 case round =>
  clear H'
  obtain ⟨x4_1, x5_1, rfl, rfl, HA, HK1, HB⟩ := hrel
  cases gk with
  | zero => exact absurd HA.out (by simp [R2_decoded.l0])
  | succ k1 =>
   have H := HA.out
   clear HA
   simp only [R2_decoded.l0] at H
   revert H; refine X.ite_d (fun c2b0 H => ?_) (fun c2b0 H => ?_)
   by_cases c3 : 0 ≤ x5_1
   rw [if_pos c3] at H
   have c3b0 : decide (0 ≤ x5_1) = true := decide_eq_true c3
   clear c3
   revert H; refine X.ite_b (fun c5b0 c5b1 H => ?_) (fun c5b0 c5b1 H => ?_)
   replace H := Option.bind_eq_some_iff.mp H
   obtain ⟨⟨t172, t173⟩, A60, H⟩ := H
   dsimp only at H
   have A6 := Aside0.mk A60
   clear A60
   revert H; refine X.ite_b (fun c7b0 c7b1 H => ?_) (fun c7b0 c7b1 H => ?_)
   rotate_left
   by_cases c9 : x4_1.size + t172.size ≤ 9223372036854775807
   rw [if_pos c9] at H
   have c9b0 := eq_true c9
   have c9b1 : decide (x4_1.size + t172.size ≤ 9223372036854775807) = true := decide_eq_true c9
   have c9b2 : (9223372036854775807 < x4_1.size + t172.size) = False := eq_false (Nat.not_lt.2 c9)
   rotate_left
   ·rw [if_neg c9] at H
    exact absurd H (by simp)
   have c11b0 := eq_true (of_decide_eq_true (zz13) : 0 ≤ x5_1)
   by_cases c12 : x5_1 ≤ (wrap64 (x5_1 + 1))
   rw [if_pos c12] at H
   have c12b0 := eq_true c12
   have c12b1 : decide (x5_1 ≤ (wrap64 (x5_1 + 1))) = true := decide_eq_true c12
   by_cases c13 : (wrap64 (x5_1 + 1)) ≤ (a0.size : Int)
   rw [if_pos c13] at H
   have c13b0 := eq_true c13
   have c13b1 : decide ((wrap64 (x5_1 + 1)) ≤ (a0.size : Int)) = true := decide_eq_true c13
   by_cases c14 : x4_1.size + (a0.extract (x5_1 : Int).toNat ((wrap64 (x5_1 + 1)) : Int).toNat).size ≤ 9223372036854775807
   rw [if_pos c14] at H
   have c14b0 := eq_true c14
   have c14b1 : decide (x4_1.size + (a0.extract (x5_1 : Int).toNat ((wrap64 (x5_1 + 1)) : Int).toNat).size ≤ 9223372036854775807) = true := decide_eq_true c14
   have c14b2 : (9223372036854775807 < x4_1.size + (a0.extract (x5_1 : Int).toNat ((wrap64 (x5_1 + 1)) : Int).toNat).size) = False := eq_false (Nat.not_lt.2 c14)
   rotate_left
   ·rw [if_neg c14] at H
    exact absurd H (by simp)
   ·rw [if_neg c13] at H
    exact absurd H (by simp)
   ·rw [if_neg c12] at H
    exact absurd H (by simp)
   ·rw [if_neg c3] at H
    exact absurd H (by simp)
   ·simp only [Option.some.injEq, Prod.mk.injEq] at H
    obtain ⟨rfl, rfl⟩ := H
    go_wp2
    go_ret2
    exact ⟨by rfl, zz7⟩
   all_goals first
   | (simp only [Option.some.injEq, Prod.mk.injEq] at H
      obtain ⟨rfl, rfl⟩ := H
      have pz1 : 0 ≤ (x5_1 : Int) := of_decide_eq_true (zz13)
      have qz1 : x5_1 < (a0.size : Int) := of_decide_eq_true (zz13)
      have hxz1 := bt_at a0 x5_1
      replace pz1 := eq_true pz1
      replace qz1 := eq_true qz1
      go_wp2_with ((((with_reducible refine gate_callee (f := 118) rfl ?_); refine goesL_ (some 28) rfl rfl Tryz.func118 (by kernel_rfl) rfl #[.string a0, .int .i64 x5_1] rfl (zz3) ?_; (with_reducible refine (R1_Entity.calls a0 x5_1 t172 t173 _ A6.out).mono ?_); rintro e wz1 ⟨rfl, hb⟩; refine ⟨_, rfl, ?_⟩; have n0_ := Aside0.mk (below_step (zz7) hb); clear HB; have HB := n0_; clear n0_; (clear hb))))
      go_ret2
      exact ⟨by rfl, zz7⟩)
   | (have H' := Aside0.mk H
      clear H
      have pz1 : 0 ≤ (x5_1 : Int) := of_decide_eq_true (zz13)
      have qz1 : x5_1 < (a0.size : Int) := of_decide_eq_true (zz13)
      have hxz1 := bt_at a0 x5_1
      replace pz1 := eq_true pz1
      replace qz1 := eq_true qz1
      go_wp2_with ((((with_reducible refine gate_callee (f := 118) rfl ?_); refine goesL_ (some 28) rfl rfl Tryz.func118 (by kernel_rfl) rfl #[.string a0, .int .i64 x5_1] rfl (zz3) ?_; (with_reducible refine (R1_Entity.calls a0 x5_1 t172 t173 _ A6.out).mono ?_); rintro e w10 ⟨rfl, hb⟩; refine ⟨_, rfl, ?_⟩; have n0_ := Aside0.mk (below_step (zz7) hb); clear HB; have HB := n0_; clear n0_; (clear hb))))
      go_roundg k1
      case measure => have := HK1.out; omega
      case rel => first | (exact ⟨(x4_1 ++ t172), (wrap64 (x5_1 + t173)), (by rfl), (by rfl), H', ⟨zz36⟩, ⟨zz7⟩⟩) | (exact ⟨(x4_1 ++ (a0.extract (x5_1 : Int).toNat ((wrap64 (x5_1 + 1)) : Int).toNat)), (wrap64 (x5_1 + 1)), (by rfl), (by rfl), H', ⟨zz36⟩, ⟨zz7⟩⟩))
end Go.Proofs.YtlhhhlimjajnlaaGreat.Q
end
section
set_option linter.unusedVariables false
set_option linter.unusedSimpArgs false
namespace Go.Proofs.YtlhhhlimjajnlaaGreat.P11
open Go Go.Proofs.YtlhhhlimjajnlaaGreat Go.Proofs.YtlhhhlimjajnlaaGreat.RefE
theorem upTo_some {c : UInt8} {l b : List UInt8} (h : upTo c l = some b) : l = b ++ c :: l.drop (b.length + 1) ∧ c ∉ b := by
 induction l generalizing b with
 | nil => simp [upTo] at h
 | cons a t ih =>
  unfold upTo at h
  by_cases e : a = c
  ·rw [if_pos e] at h
   obtain rfl := Option.some.inj h
   subst e
   simp
  ·rw [if_neg e] at h
   cases hu : upTo c t with
   | none => rw [hu] at h; simp at h
   | some x =>
    rw [hu] at h
    simp at h
    subst h
    obtain ⟨h1, h2⟩ := ih hu
    refine ⟨?_, ?_⟩
    ·simp only [List.length_cons, List.drop_succ_cons, List.cons_append]
     rw [← h1]
    ·simp only [List.mem_cons, not_or]
     exact ⟨fun e' => e e'.symm, h2⟩
theorem upTo_none {c : UInt8} {l : List UInt8} (h : upTo c l = none) : c ∉ l := by
 induction l with
 | nil => simp
 | cons a t ih =>
  unfold upTo at h
  by_cases e : a = c
  ·rw [if_pos e] at h; cases h
  ·rw [if_neg e] at h
   cases hu : upTo c t with
   | none => simp only [List.mem_cons, not_or]; exact ⟨fun e' => e e'.symm, ih hu⟩
   | some x => rw [hu] at h; simp at h
theorem pre_upTo {c : UInt8} {l b p : List UInt8} (h : upTo c l = some b) (hp : c ∉ p) : p.isPrefixOf l = p.isPrefixOf b := by
 obtain ⟨h1, h2⟩ := upTo_some h
 rw [Bool.eq_iff_iff, List.isPrefixOf_iff_prefix, List.isPrefixOf_iff_prefix]
 constructor
 ·intro hpl
  rw [h1] at hpl
  by_cases hlen : p.length ≤ b.length
  ·exact List.prefix_of_prefix_length_le hpl (List.prefix_append _ _) hlen
  ·exfalso
   apply hp
   obtain ⟨t, ht⟩ := hpl
   have h3 : p[b.length]? = some c := by
    have := congrArg (fun z => z[b.length]?) ht
    rw [List.getElem?_append_left (by omega), List.getElem?_append_right (Nat.le_refl _), Nat.sub_self] at this
    simpa using this
   exact List.mem_of_getElem? h3
 ·intro hb
  rw [h1]
  exact hb.trans (List.prefix_append _ _)
theorem pre_upTo_end {c : UInt8} {l b p : List UInt8} (h : upTo c l = some b) (hp : c ∉ p) : (p ++ [c]).isPrefixOf l = decide (b = p) := by
 obtain ⟨h1, h2⟩ := upTo_some h
 rw [Bool.eq_iff_iff, List.isPrefixOf_iff_prefix, decide_eq_true_eq]
 constructor
 ·intro hpl
  have hp1 : p <+: b := by
   have := pre_upTo h hp
   rw [Bool.eq_iff_iff, List.isPrefixOf_iff_prefix, List.isPrefixOf_iff_prefix] at this
   exact this.1 ((List.prefix_append _ _).trans hpl)
  by_cases hlen : p.length = b.length
  ·exact (hp1.eq_of_length hlen).symm
  ·exfalso
   apply h2
   have hlt : p.length < b.length := by have := hp1.length_le; omega
   obtain ⟨t, ht⟩ := hpl
   have h3 : b[p.length]? = some c := by
    rw [h1] at ht
    have := congrArg (fun z => z[p.length]?) ht
    rw [List.getElem?_append_left (by simp), List.getElem?_append_right (Nat.le_refl _), Nat.sub_self, List.getElem?_append_left hlt] at this
    simpa using this.symm
   exact List.mem_of_getElem? h3
 ·rintro rfl
  rw [h1]
  exact ⟨l.drop (b.length + 1), by simp⟩
theorem pre_none {c : UInt8} {l p : List UInt8} (h : upTo c l = none) : (p ++ [c]).isPrefixOf l = false := by
 rw [Bool.eq_false_iff]
 intro hp
 rw [List.isPrefixOf_iff_prefix] at hp
 exact upTo_none h (hp.subset (by simp))
theorem upTo_drop {c : UInt8} {l b : List UInt8} (n : Nat) (h : upTo c l = some b) (hn : n ≤ b.length) : upTo c (l.drop n) = some (b.drop n) := by
 induction n generalizing l b with
 | zero => simpa using h
 | succ n ih =>
  cases l with
  | nil => simp [upTo] at h
  | cons a t =>
   unfold upTo at h
   by_cases e : a = c
   ·rw [if_pos e] at h
    obtain rfl := Option.some.inj h
    simp at hn
   ·rw [if_neg e] at h
    cases hu : upTo c t with
    | none => rw [hu] at h; simp at h
    | some x =>
     rw [hu] at h
     simp at h
     subst h
     exact ih hu (by simp at hn; omega)
theorem upTo_drop_none {c : UInt8} {l : List UInt8} (n : Nat) (h : upTo c l = none) : upTo c (l.drop n) = none := by
 cases hu : upTo c (l.drop n) with
 | none => rfl
 | some b =>
  exfalso
  apply upTo_none h
  have := (upTo_some hu).1
  have hm : c ∈ l.drop n := by rw [this]; simp
  exact List.mem_of_mem_drop hm
theorem d99_digit (c : UInt8) (base : Int) (hb : 0 < base ∧ base ≤ 16) : (¬ d99 c.toNat ≥ base ↔ (0 ≤ digitV c ∧ digitV c < base)) ∧ (0 ≤ digitV c → d99 c.toNat = digitV c) := by
 have := c.toNat_lt
 unfold d99 digitV
 refine ⟨?_, ?_⟩
 ·repeat' split
  all_goals omega
 ·repeat' split
  all_goals omega
def numRes (base : Int) (j : Nat) (l : List UInt8) (n i : Int) : Int × Int := match upTo 59 l with
 | none => (0, 0)
 | some b => if 0 < i + (b.length : Int) ∧ b.length < j then (match digitsV base n b with | some m => (m, i + (b.length : Int)) | none => (0, 0)) else (0, 0)
theorem numGo_res (base : Int) (hb : 0 < base ∧ base ≤ 16) (j : Nat) : ∀ (l : List UInt8) (n i : Int), 0 ≤ i → numGo base j l n i = numRes base j l n i := by
 induction j with
 | zero =>
  intro l n i h
  unfold numRes
  rw [numGo]
  split
  ·rfl
  ·rw [if_neg (by omega)]
 | succ j ih =>
  intro l n i hi
  cases l with
  | nil => rfl
  | cons c t =>
   rw [numGo]
   obtain ⟨hd1, hd2⟩ := d99_digit c base hb
   by_cases h59 : c = 59
   ·subst h59
    unfold numRes
    rw [show upTo 59 (59 :: t) = some [] from by unfold upTo; rw [if_pos rfl]]
    show (if (59 : UInt8) = 59 ∧ 0 < i then (n, i) else if d99 ((59 : UInt8).toNat : Int) ≥ base then (0, 0) else numGo base j t (n * base + d99 ((59 : UInt8).toNat : Int)) (i + 1)) = (if 0 < i + ((0 : Nat) : Int) ∧ 0 < j + 1 then (n, i + ((0 : Nat) : Int)) else (0, 0))
    have h99 : d99 ((59 : UInt8).toNat : Int) = 99 := rfl
    by_cases h0 : 0 < i
    ·rw [if_pos ⟨rfl, h0⟩, if_pos ⟨by omega, by omega⟩]
     congr 1
     omega
    ·rw [if_neg (show ¬ ((59 : UInt8) = 59 ∧ 0 < i) from fun h => h0 h.2), if_pos (show d99 ((59 : UInt8).toNat : Int) ≥ base by omega), if_neg (show ¬ (0 < i + ((0 : Nat) : Int) ∧ 0 < j + 1) by omega)]
   ·rw [if_neg (fun h => h59 h.1)]
    have hu : upTo 59 (c :: t) = (upTo 59 t).map (c :: ·) := by rw [upTo, if_neg h59]
    by_cases hge : d99 c.toNat ≥ base
    ·rw [if_pos hge]
     unfold numRes
     rw [hu]
     cases upTo 59 t with
     | none => rfl
     | some b =>
      simp only [Option.map_some, digitsV]
      rw [if_neg (fun h => (hd1.2 h) hge)]
      split <;> rfl
    ·have hdv := hd1.1 hge
     rw [if_neg hge, ih t _ (i + 1) (by omega), hd2 hdv.1]
     unfold numRes
     rw [hu]
     cases upTo 59 t with
     | none => rfl
     | some b =>
      simp only [Option.map_some, digitsV, List.length_cons]
      rw [if_pos hdv]
      by_cases hc : 0 < i + 1 + (b.length : Int) ∧ b.length < j
      ·rw [if_pos hc, if_pos ⟨by omega, by omega⟩]
       cases digitsV base (n * base + digitV c) b with
       | none => rfl
       | some m => simp only; congr 1; omega
      ·rw [if_neg hc, if_neg (fun h => hc ⟨by omega, by omega⟩)]
theorem allowed_point {c : Int} (h : allowedB c = true) : pointB c = true := by
 unfold allowedB at h
 simp only [Bool.or_eq_true, Bool.and_eq_true, beq_iff_eq] at h
 rcases h with ((rfl | rfl) | rfl) | h
 ·rfl
 ·rfl
 ·rfl
 ·exact h.2
theorem num_good (l : List UInt8) (i base : Int) (hb : 0 < base ∧ base ≤ 16) (h0 : 0 ≤ i) (b : List UInt8) (hu : upTo 59 (l.drop i.toNat) = some b) :
 (if (decide (0 < (numS l i base).2) && allowedB (numS l i base).1) = true then (encL (numS l i base).1, (numS l i base).2) else ([], 0)) = if numdL base b = [] then ([], 0) else (numdL base b, (b.length : Int)) := by
 have hN : numS l i base = if 0 < 0 + (b.length : Int) ∧ b.length < 9 then (match digitsV base 0 b with | some m => (m, 0 + (b.length : Int)) | none => (0, 0)) else (0, 0) := by
  unfold numS
  rw [numGo_res base hb 9 _ 0 0 (by omega)]
  unfold numRes
  rw [hu]
 unfold numdL
 by_cases hc : 0 < 0 + (b.length : Int) ∧ b.length < 9
 ·rw [if_pos hc] at hN
  rw [if_neg (show ¬ (b = [] ∨ 8 < b.length) from fun h => h.elim (fun e => by subst e; simp at hc) (fun h => by omega))]
  cases hd : digitsV base 0 b with
  | none =>
   rw [hd] at hN
   have hN' : numS l i base = (0, 0) := hN
   rw [hN']
   rfl
  | some m =>
   rw [hd] at hN
   have hN' : numS l i base = (m, (b.length : Int)) := hN.trans (by rw [Int.zero_add])
   rw [hN']
   simp only
   by_cases ha : allowedB m = true
   ·have hne : ¬ encL m = [] := fun e => by
     have := (enc_nil m).1 e
     rw [allowed_point ha] at this
     cases this
    rw [if_pos (by rw [ha]; simp; omega), if_pos ha, if_neg hne]
   ·have haf : allowedB m = false := by simpa using ha
    rw [haf]
    simp
 ·rw [if_neg hc] at hN
  rw [hN, if_pos (show b = [] ∨ 8 < b.length from by
   by_cases hbe : b = []
   ·exact .inl hbe
   ·right
    have : 0 < b.length := List.length_pos_iff.2 hbe
    omega)]
  rfl
theorem num_bad (l : List UInt8) (i base : Int) (hb : 0 < base ∧ base ≤ 16) (hu : upTo 59 (l.drop i.toNat) = none) : numS l i base = (0, 0) := by
 unfold numS
 rw [numGo_res base hb 9 _ 0 0 (by omega)]
 unfold numRes
 rw [hu]
theorem refEnt_eq (l : List UInt8) (i : Int) : refEnt l i = entP l i := by
 unfold entP
 by_cases hin : 0 ≤ i ∧ i < (l.length : Int)
 ·rw [if_pos hin]
  obtain ⟨n, rfl⟩ := Int.eq_ofNat_of_zero_le hin.1
  have hn : n < l.length := by omega
  rw [Int.toNat_natCast]
  have hbeg : ∀ t, begB l (n : Int) t = t.isPrefixOf (l.drop n) := by
   intro t
   unfold begB
   rw [show decide ((0 : Int) ≤ (n : Int) ∧ (n : Int) ≤ (l.length : Int)) = true from by simp; omega, Bool.true_and, Int.toNat_natCast]
  have hdrop : ∀ k : Nat, l.drop (((n : Int) + (k : Int)).toNat) = (l.drop n).drop k := by
   intro k
   rw [List.drop_drop]
   congr 1
  unfold refEnt
  obtain ⟨a, r, har⟩ : ∃ a r, l.drop n = a :: r := ⟨_, _, List.drop_eq_getElem_cons hn⟩
  have hr1 : ∀ k : Nat, l.drop (((n : Int) + ((k + 1 : Nat) : Int)).toNat) = r.drop k := by
   intro k
   rw [hdrop, har, List.drop_succ_cons]
  simp only [nameFrom, markFrom, hbeg, har, entNames, entMarks, List.getD_cons_zero, List.getD_cons_succ, entChars]
  by_cases ha : a = 38
  ·subst ha
   have hcons : ∀ t : List UInt8, (38 :: t).isPrefixOf (38 :: r) = t.isPrefixOf r := by intro t; simp [List.isPrefixOf]
   simp only [hcons]
   have hent : entL (38 :: r) = match upTo 59 r with | some b => if bodyL b = [] then ([], 0) else (bodyL b, (b.length : Int) + 2) | none => ([], 0) := rfl
   rw [hent]
   have e1 : ([108, 116, 59] : List UInt8) = [108, 116] ++ [59] := rfl
   have e2 : ([103, 116, 59] : List UInt8) = [103, 116] ++ [59] := rfl
   have e3 : ([97, 109, 112, 59] : List UInt8) = [97, 109, 112] ++ [59] := rfl
   have e4 : ([113, 117, 111, 116, 59] : List UInt8) = [113, 117, 111, 116] ++ [59] := rfl
   have e5 : ([97, 112, 111, 115, 59] : List UInt8) = [97, 112, 111, 115] ++ [59] := rfl
   rw [e1, e2, e3, e4, e5]
   have hg0 : goodAt l (n : Int) 0 = (decide (0 < (numS l ((n : Int) + 3) 16).2) && allowedB (numS l ((n : Int) + 3) 16).1) := rfl
   have hg1 : goodAt l (n : Int) 1 = (decide (0 < (numS l ((n : Int) + 2) 10).2) && allowedB (numS l ((n : Int) + 2) 10).1) := rfl
   have hn0 : numAt l (n : Int) 0 = numS l ((n : Int) + 3) 16 := rfl
   have hn1 : numAt l (n : Int) 1 = numS l ((n : Int) + 2) 10 := rfl
   have hl3 : l.drop ((n : Int) + 3).toNat = r.drop 2 := hr1 2
   have hl2 : l.drop ((n : Int) + 2).toNat = r.drop 1 := hr1 1
   rw [hg0, hg1, hn0, hn1]
   cases hu : upTo 59 r with
   | none =>
    simp only [pre_none hu]
    rw [num_bad l _ 16 (by decide) (by rw [hl3]; exact upTo_drop_none 2 hu), num_bad l _ 10 (by decide) (by rw [hl2]; exact upTo_drop_none 1 hu)]
    simp
   | some b =>
    simp only [pre_upTo_end hu (show (59 : UInt8) ∉ [108, 116] by decide), pre_upTo_end hu (show (59 : UInt8) ∉ [103, 116] by decide), pre_upTo_end hu (show (59 : UInt8) ∉ [97, 109, 112] by decide), pre_upTo_end hu (show (59 : UInt8) ∉ [113, 117, 111, 116] by decide), pre_upTo_end hu (show (59 : UInt8) ∉ [97, 112, 111, 115] by decide), pre_upTo hu (show (59 : UInt8) ∉ [35, 120] by decide), pre_upTo hu (show (59 : UInt8) ∉ [35] by decide)]
    by_cases p1 : [35, 120].isPrefixOf b = true
    ·obtain ⟨b', rfl⟩ := List.isPrefixOf_iff_prefix.1 p1
     have hbody : bodyL ([35, 120] ++ b') = numdL 16 b' := by unfold bodyL; rw [if_pos p1]; rfl
     rw [hbody]
     have hng := num_good l ((n : Int) + 3) 16 (by decide) (by omega) b' (by rw [hl3]; exact upTo_drop 2 hu (by simp))
     have hbad : numS l ((n : Int) + 2) 10 = (0, 0) := by
      unfold numS
      rw [hl2, numGo_res 10 (by decide) 9 _ 0 0 (by omega)]
      unfold numRes
      rw [upTo_drop 1 hu (by simp)]
      simp only
      split
      ·rfl
      ·rfl
     rw [hbad, p1]
     have p2 : [35].isPrefixOf ([35, 120] ++ b') = true := rfl
     rw [p2]
     simp only [Bool.true_and, show decide ((0 : Int) < 0) = false from rfl, Bool.false_and]
     have q1 : decide ([35, 120] ++ b' = ([108, 116] : List UInt8)) = false := by simp
     have q2 : decide ([35, 120] ++ b' = ([103, 116] : List UInt8)) = false := by simp
     have q3 : decide ([35, 120] ++ b' = ([97, 109, 112] : List UInt8)) = false := by simp
     have q4 : decide ([35, 120] ++ b' = ([113, 117, 111, 116] : List UInt8)) = false := by simp
     have q5 : decide ([35, 120] ++ b' = ([97, 112, 111, 115] : List UInt8)) = false := by simp
     rw [q1, q2, q3, q4, q5]
     simp only [if_neg (show ¬ (false = true) by decide)]
     by_cases hgood : (decide (0 < (numS l ((n : Int) + 3) 16).2) && allowedB (numS l ((n : Int) + 3) 16).1) = true
     ·rw [if_pos hgood] at hng ⊢
      by_cases hnil : numdL 16 b' = []
      ·rw [if_pos hnil] at hng
       simp only [Prod.mk.injEq] at hng
       rw [if_pos hnil]
       simp only [Bool.and_eq_true, decide_eq_true_eq] at hgood
       omega
      ·rw [if_neg hnil] at hng ⊢
       simp only [Prod.mk.injEq] at hng
       rw [hng.1, hng.2]
       simp only [List.length_append, List.length_cons, List.length_nil]
       congr 1
       omega
     ·rw [if_neg hgood] at hng ⊢
      by_cases hnil : numdL 16 b' = []
      ·rw [if_pos hnil]
      ·rw [if_neg hnil] at hng
       simp only [Prod.mk.injEq] at hng
       exact absurd hng.1.symm hnil
    ·have p1f : [35, 120].isPrefixOf b = false := Bool.eq_false_iff.2 p1
     rw [p1f]
     simp only [Bool.false_and, if_neg (show ¬ (false = true) by decide)]
     by_cases p2 : [35].isPrefixOf b = true
     ·obtain ⟨b', rfl⟩ := List.isPrefixOf_iff_prefix.1 p2
      have hbody : bodyL ([35] ++ b') = numdL 10 b' := by unfold bodyL; rw [if_neg p1, if_pos p2]; rfl
      rw [hbody, p2]
      have hng := num_good l ((n : Int) + 2) 10 (by decide) (by omega) b' (by rw [hl2]; exact upTo_drop 1 hu (by simp))
      have q1 : decide ([35] ++ b' = ([108, 116] : List UInt8)) = false := by simp
      have q2 : decide ([35] ++ b' = ([103, 116] : List UInt8)) = false := by simp
      have q3 : decide ([35] ++ b' = ([97, 109, 112] : List UInt8)) = false := by simp
      have q4 : decide ([35] ++ b' = ([113, 117, 111, 116] : List UInt8)) = false := by simp
      have q5 : decide ([35] ++ b' = ([97, 112, 111, 115] : List UInt8)) = false := by simp
      rw [q1, q2, q3, q4, q5]
      simp only [if_neg (show ¬ (false = true) by decide), Bool.true_and]
      by_cases hgood : (decide (0 < (numS l ((n : Int) + 2) 10).2) && allowedB (numS l ((n : Int) + 2) 10).1) = true
      ·rw [if_pos hgood] at hng ⊢
       by_cases hnil : numdL 10 b' = []
       ·rw [if_pos hnil] at hng
        simp only [Prod.mk.injEq] at hng
        rw [if_pos hnil]
        simp only [Bool.and_eq_true, decide_eq_true_eq] at hgood
        omega
       ·rw [if_neg hnil] at hng ⊢
        simp only [Prod.mk.injEq] at hng
        rw [hng.1, hng.2]
        simp only [List.length_append, List.length_cons, List.length_nil]
        congr 1
        omega
      ·rw [if_neg hgood] at hng ⊢
       by_cases hnil : numdL 10 b' = []
       ·rw [if_pos hnil]
       ·rw [if_neg hnil] at hng
        simp only [Prod.mk.injEq] at hng
        exact absurd hng.1.symm hnil
     ·have p2f : [35].isPrefixOf b = false := Bool.eq_false_iff.2 p2
      rw [p2f]
      have hbody : bodyL b = namedL b := by unfold bodyL; rw [if_neg p1, if_neg p2]
      rw [hbody]
      unfold namedL
      simp only [Bool.false_and, if_neg (show ¬ (false = true) by decide), decide_eq_true_eq]
      by_cases g1 : b = [108, 116]
      ·subst g1; rfl
      by_cases g2 : b = [103, 116]
      ·subst g2; rfl
      by_cases g3 : b = [97, 109, 112]
      ·subst g3; rfl
      by_cases g4 : b = [113, 117, 111, 116]
      ·subst g4; rfl
      by_cases g5 : b = [97, 112, 111, 115]
      ·subst g5; rfl
      simp only [if_neg g1, if_neg g2, if_neg g3, if_neg g4, if_neg g5, if_true]
  ·have hcons : ∀ t : List UInt8, (38 :: t).isPrefixOf (a :: r) = false := by
    intro t
    simp only [List.isPrefixOf, Bool.and_eq_false_iff]
    left
    simpa using fun e : 38 = a => ha e.symm
   simp only [hcons, Bool.false_and, if_neg (show ¬ (false = true) by decide)]
   show _ = (if a = 38 then _ else _)
   rw [if_neg ha]
 ·rw [if_neg hin]
  have hbeg : ∀ t : List UInt8, t ≠ [] → begB l i t = false := by
   intro t ht
   rw [Bool.eq_false_iff]
   intro h
   have := begB_in h
   have h2 : 0 < t.length := List.length_pos_iff.2 ht
   omega
  unfold refEnt
  simp only [nameFrom, markFrom, entNames, entMarks, List.getD_cons_zero, List.getD_cons_succ]
  rw [hbeg _ (by simp), hbeg _ (by simp), hbeg _ (by simp), hbeg _ (by simp), hbeg _ (by simp), hbeg _ (by simp), hbeg _ (by simp)]
  simp
end Go.Proofs.YtlhhhlimjajnlaaGreat.P11
end
