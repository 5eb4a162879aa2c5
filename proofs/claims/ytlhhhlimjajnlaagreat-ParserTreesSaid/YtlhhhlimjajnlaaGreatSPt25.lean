/- Parts of the proof of parserTrees_holds, kept and merged by a program of mine (wip/tools/slim.py) out of my texts: RefE Q14 P11e -/
import Derived.Test.YtlhhhlimjajnlaaGreatSPt0
import Derived.Handy
import Derived.WalkMore
import Derived.Lib.Hide
import Derived.BigQuiet
import Derived.Deep.QuietTactic
import Derived.Deep.RegionHeld3
import Derived.Deep.RegionWith
import Derived.Test.YtlhhhlimjajnlaaGreatSPt24
import Derived.Test.YtlhhhlimjajnlaaGreatSPt4
import Derived.Test.YtlhhhlimjajnlaaGreatSPt5
section
set_option linter.unusedVariables false
set_option linter.unusedSimpArgs false
namespace Go.Proofs.YtlhhhlimjajnlaaGreat.RefE
open Go Go.RowKit Go.Proofs.YtlhhhlimjajnlaaGreat Go.Proofs.YtlhhhlimjajnlaaGreat.Q Go.Proofs.YtlhhhlimjajnlaaGreat.P11 Go.Proofs.YtlhhhlimjajnlaaGreatW.PrintWords
def entNames : List (List UInt8) := [[38, 108, 116, 59], [38, 103, 116, 59], [38, 97, 109, 112, 59], [38, 113, 117, 111, 116, 59], [38, 97, 112, 111, 115, 59]]
def entChars : List UInt8 := [60, 62, 38, 34, 39]
def entMarks : List (List UInt8) := [[38, 35, 120], [38, 35]]
def entBase (j : Nat) : Int := if j = 0 then 16 else 10
def numAt (l : List UInt8) (i : Int) (j : Nat) : Int × Int := numS l (i + (entMarks.getD j []).length) (entBase j)
def goodAt (l : List UInt8) (i : Int) (j : Nat) : Bool := decide (0 < (numAt l i j).2) && allowedB (numAt l i j).1
def markFrom (l : List UInt8) (i : Int) : Nat → Nat → List UInt8 × Int
 | 0, _ => ([], 0)
 | d + 1, j => if begB l i (entMarks.getD j []) && goodAt l i j then (encL (numAt l i j).1, ((entMarks.getD j []).length : Int) + (numAt l i j).2 + 1) else markFrom l i d (j + 1)
def nameFrom (l : List UInt8) (i : Int) : Nat → Nat → List UInt8 × Int
 | 0, _ => markFrom l i 2 0
 | d + 1, j => if begB l i (entNames.getD j []) then ([entChars.getD j 0], (entNames.getD j []).length) else nameFrom l i d (j + 1)
def refEnt (l : List UInt8) (i : Int) : List UInt8 × Int := nameFrom l i 5 0
theorem ret_si {s : ByteArray} {k : IntKind} {a b : Int} (h : a = b) : Ending.returned (.tuple #[.string s, .int k a]) = .returned (.tuple #[.string s, .int k b]) := by rw [h]
def EntEnd (R : List UInt8 × Int) (w : World) (e : Ending) (w' : World) : Prop := e = .returned (.tuple #[.string ⟨R.1.toArray⟩, .int .i64 R.2]) ∧ Below w.heap.size w w'
theorem begins_c (s : ByteArray) (i : Int) (t : ByteArray) (b : Bool) (w : World) (hs : s.size ≤ 4294967296) (ht : t.size ≤ 4294967296) (h : begB s.data.toList i t.data.toList = b) :
 Calls Tryz.prog 137 #[.string s, .int .i64 i, .string t] w fun e w' => e = .returned (.bool b) ∧ Drawn0 w w' :=
 R1_begins.calls s i t b w (by rw [begins_f s i t hs ht, h])
theorem number_c (s : ByteArray) (i base n k : Int) (w : World) (hb : 0 < base ∧ base ≤ 16) (hs : s.size ≤ 4294967296) (h0 : 0 ≤ i) (h1 : i ≤ s.size) (h : numS s.data.toList i base = (n, k)) :
 Calls Tryz.prog 138 #[.string s, .int .i64 i, .int .i64 base] w fun e w' => e = .returned (.tuple #[.int .i64 n, .int .i64 k]) ∧ Drawn0 w w' :=
 R1_number.calls 64 s i base n k w (by rw [number_f s i base hb hs h0 h1, h])
theorem allowed_c (c : Int) (b : Bool) (w : World) (h : allowedB c = b) : Calls Tryz.prog 92 #[.int .i64 c] w fun e w' => e = .returned (.bool b) ∧ Drawn0 w w' :=
 R1_Allowed.calls c b w (by rw [allowed_f, h])
theorem encode_c (c : Int) (w : World) : Calls Tryz.prog 116 #[.int .i64 c] w fun e w' => e = .returned (.string ⟨(encL c).toArray⟩) ∧ Below w.heap.size w w' :=
 R1_Encode.calls c _ w (encode_f c)
theorem begB_in {l : List UInt8} {i : Int} {t : List UInt8} (h : begB l i t = true) : 0 ≤ i ∧ i + t.length ≤ l.length := by
 unfold begB at h
 simp only [Bool.and_eq_true, decide_eq_true_eq] at h
 have := (List.isPrefixOf_iff_prefix.1 h.2).length_le
 rw [List.length_drop] at this
 omega
theorem numGo_le (base : Int) (j : Nat) : ∀ (l : List UInt8) (n i : Int), 0 ≤ i → (numGo base j l n i).2 ≤ i + j := by
 induction j with
 | zero => intro l n i h; rw [numGo]; simp; omega
 | succ j ih =>
  intro l n i h
  cases l with
  | nil => rw [numGo]; simp; omega
  | cons c t =>
   rw [numGo]
   split
   ·simp; omega
   ·split
    ·simp; omega
    ·have := ih t (n * base + d99 c.toNat) (i + 1) (by omega)
     omega
theorem numS_le {l : List UInt8} {i base v k : Int} (h : numS l i base = (v, k)) : k ≤ 9 := by
 have := numGo_le base 9 (l.drop i.toNat) 0 0 (by omega)
 unfold numS at h
 rw [h] at this
 simpa using this
theorem quiet_at {P : Program} {f : FuncId} {args : Array Value} {w : World} {a n : Nat} {v : Value} (h : Calls P f args (w.drewN (a + n)) fun e w' => e = .returned v ∧ Drawn0 (w.drewN (a + n)) w') :
 Calls P f args (w.drewN (a + n)) fun e w'' => e = .returned v ∧ ∃ m, w'' = w.drewN (a + m) :=
 h.mono fun _ _ ⟨he, hd⟩ => by
  obtain ⟨m, hm⟩ := hd.out
  exact ⟨he, n + m, by rw [hm, World.drewN_drewN, Nat.add_assoc]⟩
theorem cell_third (w : World) (o1 o2 o4 : Obj) (cs : Array Value) (T : TypeId) (n j : Nat) (v : Value) (h : cs[j]? = some v) :
 (((((w.alloc o1).alloc o2).alloc (.cells cs T)).alloc o4).drewN n).drew.cell? ⟨w.heap.size + 1 + 1, j, none⟩ = some v := by
 show ((((w.alloc o1).alloc o2).alloc (.cells cs T)).alloc o4).cell? ⟨w.heap.size + 1 + 1, j, none⟩ = some v
 rw [World.cell?_alloc_lt _ _ _ (by simp)]
 have hb := blk_new ((w.alloc o1).alloc o2) (.cells cs T)
 have hsz : ((w.alloc o1).alloc o2).heap.size = w.heap.size + 1 + 1 := by simp
 rw [hsz] at hb
 rw [blk_cell hb, h]
set_option maxHeartbeats 4000000 in
set_option maxRecDepth 100000 in
theorem entity_c (s : ByteArray) (i : Int) (hs : s.size ≤ 4294967296) (w : World) :
 Calls Tryz.prog 118 #[.string s, .int .i64 i] w (EntEnd (refEnt s.data.toList i) w) := by
 obtain ⟨R, hR⟩ : ∃ R, refEnt s.data.toList i = R := ⟨_, rfl⟩
 rw [hR]
 have HR : Hid (nameFrom s.data.toList i (5 - 0) 0 = R) := Lib.hid hR
 clear hR
 go_enter Tryz.func118, Tryz.ntmps118
 go_wp2
 go_loopw [4, 5, 8] (fun r4 r5 t wr => ∃ (j n : Nat), j ≤ 5 ∧ r4 = .string ⟨#[]⟩ ∧ r5 = .int .i64 0 ∧ t = .int .i64 j ∧ wr = ((w.alloc (.cells #[.string ⟨#[38, 108, 116, 59]⟩, .string ⟨#[38, 103, 116, 59]⟩, .string ⟨#[38, 97, 109, 112, 59]⟩, .string ⟨#[38, 113, 117, 111, 116, 59]⟩, .string ⟨#[38, 97, 112, 111, 115, 59]⟩] 150)).alloc (.cells #[.string ⟨#[60]⟩, .string ⟨#[62]⟩, .string ⟨#[38]⟩, .string ⟨#[34]⟩, .string ⟨#[39]⟩] 150)).drewN n ∧ Hid (nameFrom s.data.toList i (5 - j) j = R)) (fun _ _ t wr => 5 - (intOf t).toNat)
 case atStart => exact ⟨0, 0, by omega, rfl, rfl, rfl, rfl, HR⟩
 case round =>
  clear HR
  obtain ⟨j, nd, hj, rfl, rfl, rfl, rfl, hR⟩ := hrel
  have hbel : Hid (Below w.heap.size w ((w.alloc (.cells #[.string ⟨#[38, 108, 116, 59]⟩, .string ⟨#[38, 103, 116, 59]⟩, .string ⟨#[38, 97, 109, 112, 59]⟩, .string ⟨#[38, 113, 117, 111, 116, 59]⟩, .string ⟨#[38, 97, 112, 111, 115, 59]⟩] 150)).alloc (.cells #[.string ⟨#[60]⟩, .string ⟨#[62]⟩, .string ⟨#[38]⟩, .string ⟨#[34]⟩, .string ⟨#[39]⟩] 150))) := Lib.hid (((Below.refl _ _).alloc (Nat.le_refl _) _).alloc (by simp) _)
  by_cases hj5 : j = 5
  ·subst hj5
   have HR2 : Hid (markFrom s.data.toList i (2 - 0) 0 = R) := Lib.hid (by rw [← hR.out]; rfl)
   have hbel2 : Hid (Below w.heap.size w ((((w.alloc (.cells #[.string ⟨#[38, 108, 116, 59]⟩, .string ⟨#[38, 103, 116, 59]⟩, .string ⟨#[38, 97, 109, 112, 59]⟩, .string ⟨#[38, 113, 117, 111, 116, 59]⟩, .string ⟨#[38, 97, 112, 111, 115, 59]⟩] 150)).alloc (.cells #[.string ⟨#[60]⟩, .string ⟨#[62]⟩, .string ⟨#[38]⟩, .string ⟨#[34]⟩, .string ⟨#[39]⟩] 150)).alloc (.cells #[.string ⟨#[38, 35, 120]⟩, .string ⟨#[38, 35]⟩] 151)).alloc (.cells #[.int .i64 16, .int .i64 10] 152))) := Lib.hid ((hbel.out.alloc (by simp; omega) _).alloc (by simp; omega) _)
   clear hR hbel hj
   rw [show ((5 : Nat) : Int) = 5 from rfl]
   go_wp2
   go_loopw [4, 5, 12] (fun r4 r5 t wr => ∃ (j n : Nat), j ≤ 2 ∧ r4 = .string ⟨#[]⟩ ∧ r5 = .int .i64 0 ∧ t = .int .i64 j ∧ wr = ((((w.alloc (.cells #[.string ⟨#[38, 108, 116, 59]⟩, .string ⟨#[38, 103, 116, 59]⟩, .string ⟨#[38, 97, 109, 112, 59]⟩, .string ⟨#[38, 113, 117, 111, 116, 59]⟩, .string ⟨#[38, 97, 112, 111, 115, 59]⟩] 150)).alloc (.cells #[.string ⟨#[60]⟩, .string ⟨#[62]⟩, .string ⟨#[38]⟩, .string ⟨#[34]⟩, .string ⟨#[39]⟩] 150)).alloc (.cells #[.string ⟨#[38, 35, 120]⟩, .string ⟨#[38, 35]⟩] 151)).alloc (.cells #[.int .i64 16, .int .i64 10] 152)).drewN n ∧ Hid (markFrom s.data.toList i (2 - j) j = R)) (fun _ _ t wr => 2 - (intOf t).toNat)
   case atStart => exact ⟨0, nd, by omega, rfl, rfl, rfl, rfl, HR2⟩
   case round =>
    clear HR2
    obtain ⟨j, nd2, hj, rfl, rfl, rfl, rfl, hR⟩ := hrel
    by_cases hj2 : j = 2
    ·subst hj2
     have hRe : R = ([], 0) := hR.out.symm
     subst hRe
     clear hR
     go_wp2
     go_ret2
     exact ⟨rfl, by repeat (first | exact hbel2.out | refine pw_below_drewN ?_ _)⟩
    ·obtain rfl | rfl : j = 0 ∨ j = 1 := by omega
     ·by_cases hb : begB s.data.toList i (ByteArray.mk #[38, 35, 120]).data.toList = true
      ·have hin : 0 ≤ i ∧ i + 3 ≤ s.size := begB_in hb
       have hw : IntKind.i64.wrap (i + 3) = i + 3 := zz70
       obtain ⟨v, k, hnk⟩ : ∃ v k, numS s.data.toList (i + 3) 16 = (v, k) := ⟨_, _, rfl⟩
       have HN := Lib.hid hnk
       by_cases hg : (decide (0 < k) && allowedB v) = true
       ·have hRe : R = (encL v, 3 + k + 1) := by
         rw [← hR.out]
         show (if (begB s.data.toList i [38, 35, 120] && goodAt s.data.toList i 0) = true then (encL (numAt s.data.toList i 0).1, (3 : Int) + (numAt s.data.toList i 0).2 + 1) else _) = _
         have hna : numAt s.data.toList i 0 = (v, k) := hnk
         have hga : goodAt s.data.toList i 0 = true := by unfold goodAt; rw [hna]; exact hg
         rw [hga, show begB s.data.toList i [38, 35, 120] = true from hb, hna]
         rfl
        subst hRe
        have hk0 : 0 < k := by simp at hg; exact hg.1
        have hka : allowedB v = true := by simp at hg; exact hg.2
        have hk9 : k ≤ 9 := numS_le hnk
        have HA := Lib.hid hka
        have HB := Lib.hid hb
        clear hR hb hnk hg hka hj2
        go_wp2_with (go_at_call 137; refine (begins_c s i _ true _ hs (by decide) HB.out).mono ?_; rintro e w' ⟨rfl, ⟨⟨n1, rfl⟩⟩⟩)
        go_quiet ((go_at_call 138; exact quiet_at (number_c s _ _ v k _ (by decide) hs (by omega) (by omega) HN.out)))
        go_wp2_with (go_at_call 92; refine (allowed_c v true _ HA.out).mono ?_; rintro e w' ⟨rfl, ⟨⟨n2, rfl⟩⟩⟩)
        go_region_held3 (fun W => W.cell? ⟨w.heap.size + 1 + 1, 0, none⟩ = some (.string ⟨#[38, 35, 120]⟩)) (first | exact cell_third _ _ _ _ _ _ _ _ _ rfl | exact pw_cell_below (by assumption) (by assumption) | go_keep | (refine (HB1.cell ?_).trans ?_ <;> simp; done) | (refine (HB1.cell ?_).trans ?_ <;> simp [World.cell?_alloc_some]; done)) ((go_at_call 116; refine (encode_c v _).mono ?_; rintro e w1 ⟨rfl, HB1⟩))
        go_wp2
        have hwk : IntKind.i64.wrap (IntKind.i64.wrap (3 + k) + 1) = 3 + k + 1 := by rw [IntKind.wrap_i64, IntKind.wrap_i64]; omega
        go_ret2
        exact zz59
       ·have hR' : Hid (markFrom s.data.toList i (2 - 1) 1 = R) := Lib.hid (by
         rw [← hR.out]
         show _ = (if (begB s.data.toList i [38, 35, 120] && goodAt s.data.toList i 0) = true then _ else _)
         have hna : numAt s.data.toList i 0 = (v, k) := hnk
         have hga : goodAt s.data.toList i 0 = false := by unfold goodAt; rw [hna]; simpa using hg
         rw [hga, Bool.and_false, if_neg (by decide)])
        have HB := Lib.hid hb
        obtain ⟨b, hbv⟩ : ∃ b, allowedB v = b := ⟨_, rfl⟩
        have HA := Lib.hid hbv
        have hcase : (0 < k ∧ b = false) ∨ ¬ 0 < k := by
         by_cases h0 : 0 < k
         ·refine .inl ⟨h0, ?_⟩
          rw [← hbv]
          simpa [h0] using hg
         ·exact .inr h0
        clear hR hb hnk hg hbv hj2
        rcases hcase with ⟨h0, rfl⟩ | h0
        ·go_wp2_with (go_at_call 137; refine (begins_c s i _ true _ hs (by decide) HB.out).mono ?_; rintro e w' ⟨rfl, ⟨⟨n1, rfl⟩⟩⟩)
         go_quiet ((go_at_call 138; exact quiet_at (number_c s _ _ v k _ (by decide) hs (by omega) (by omega) HN.out)))
         go_wp2_with (go_at_call 92; refine (allowed_c v false _ HA.out).mono ?_; rintro e w' ⟨rfl, ⟨⟨n2, rfl⟩⟩⟩)
         go_roundw
         case rel => exact ⟨1, _, by omega, rfl, rfl, rfl, rfl, hR'⟩
         case measure => simp [intOf]
        ·have hd : decide (0 < k) = false := by simpa using h0
         go_wp2_with (go_at_call 137; refine (begins_c s i _ true _ hs (by decide) HB.out).mono ?_; rintro e w' ⟨rfl, ⟨⟨n1, rfl⟩⟩⟩)
         go_quiet ((go_at_call 138; exact quiet_at (number_c s _ _ v k _ (by decide) hs (by omega) (by omega) HN.out)))
         go_wp2_with (go_at_call 92; refine (allowed_c v b _ HA.out).mono ?_; rintro e w' ⟨rfl, ⟨⟨n2, rfl⟩⟩⟩)
         go_roundw
         case rel => exact ⟨1, _, by omega, rfl, rfl, rfl, rfl, hR'⟩
         case measure => simp [intOf]
      ·have hb' : begB s.data.toList i (ByteArray.mk #[38, 35, 120]).data.toList = false := by simpa using hb
       have hR' : Hid (markFrom s.data.toList i (2 - 1) 1 = R) := Lib.hid (by
        rw [← hR.out]
        show _ = (if (begB s.data.toList i [38, 35, 120] && goodAt s.data.toList i 0) = true then _ else _)
        rw [show begB s.data.toList i [38, 35, 120] = false from hb', Bool.false_and, if_neg (by decide)])
       have HB := Lib.hid hb'
       clear hb hb' hR hj2
       go_wp2_with (go_at_call 137; refine (begins_c s i _ false _ hs (by decide) HB.out).mono ?_; rintro e w' ⟨rfl, ⟨⟨n1, rfl⟩⟩⟩)
       go_roundw
       case rel => exact ⟨1, _, by omega, rfl, rfl, rfl, rfl, hR'⟩
       case measure => simp [intOf]
     ·by_cases hb : begB s.data.toList i (ByteArray.mk #[38, 35]).data.toList = true
      ·have hin : 0 ≤ i ∧ i + 2 ≤ s.size := begB_in hb
       have hw : IntKind.i64.wrap (i + 2) = i + 2 := zz70
       obtain ⟨v, k, hnk⟩ : ∃ v k, numS s.data.toList (i + 2) 10 = (v, k) := ⟨_, _, rfl⟩
       have HN := Lib.hid hnk
       by_cases hg : (decide (0 < k) && allowedB v) = true
       ·have hRe : R = (encL v, 2 + k + 1) := by
         rw [← hR.out]
         show (if (begB s.data.toList i [38, 35] && goodAt s.data.toList i 1) = true then (encL (numAt s.data.toList i 1).1, (2 : Int) + (numAt s.data.toList i 1).2 + 1) else _) = _
         have hna : numAt s.data.toList i 1 = (v, k) := hnk
         have hga : goodAt s.data.toList i 1 = true := by unfold goodAt; rw [hna]; exact hg
         rw [hga, show begB s.data.toList i [38, 35] = true from hb, hna]
         rfl
        subst hRe
        have hk0 : 0 < k := by simp at hg; exact hg.1
        have hka : allowedB v = true := by simp at hg; exact hg.2
        have hk9 : k ≤ 9 := numS_le hnk
        have HA := Lib.hid hka
        have HB := Lib.hid hb
        clear hR hb hnk hg hka hj2
        go_wp2_with (go_at_call 137; refine (begins_c s i _ true _ hs (by decide) HB.out).mono ?_; rintro e w' ⟨rfl, ⟨⟨n1, rfl⟩⟩⟩)
        go_quiet ((go_at_call 138; exact quiet_at (number_c s _ _ v k _ (by decide) hs (by omega) (by omega) HN.out)))
        go_wp2_with (go_at_call 92; refine (allowed_c v true _ HA.out).mono ?_; rintro e w' ⟨rfl, ⟨⟨n2, rfl⟩⟩⟩)
        go_region_held3 (fun W => W.cell? ⟨w.heap.size + 1 + 1, 1, none⟩ = some (.string ⟨#[38, 35]⟩)) (first | exact cell_third _ _ _ _ _ _ _ _ _ rfl | exact pw_cell_below (by assumption) (by assumption) | go_keep | (refine (HB1.cell ?_).trans ?_ <;> simp; done) | (refine (HB1.cell ?_).trans ?_ <;> simp [World.cell?_alloc_some]; done)) ((go_at_call 116; refine (encode_c v _).mono ?_; rintro e w1 ⟨rfl, HB1⟩))
        go_wp2
        have hwk : IntKind.i64.wrap (IntKind.i64.wrap (2 + k) + 1) = 2 + k + 1 := by rw [IntKind.wrap_i64, IntKind.wrap_i64]; omega
        go_ret2
        exact zz59
       ·have hR' : Hid (markFrom s.data.toList i (2 - 2) 2 = R) := Lib.hid (by
         rw [← hR.out]
         show _ = (if (begB s.data.toList i [38, 35] && goodAt s.data.toList i 1) = true then _ else _)
         have hna : numAt s.data.toList i 1 = (v, k) := hnk
         have hga : goodAt s.data.toList i 1 = false := by unfold goodAt; rw [hna]; simpa using hg
         rw [hga, Bool.and_false, if_neg (by decide)])
        have HB := Lib.hid hb
        obtain ⟨b, hbv⟩ : ∃ b, allowedB v = b := ⟨_, rfl⟩
        have HA := Lib.hid hbv
        have hcase : (0 < k ∧ b = false) ∨ ¬ 0 < k := by
         by_cases h0 : 0 < k
         ·refine .inl ⟨h0, ?_⟩
          rw [← hbv]
          simpa [h0] using hg
         ·exact .inr h0
        clear hR hb hnk hg hbv hj2
        rcases hcase with ⟨h0, rfl⟩ | h0
        ·go_wp2_with (go_at_call 137; refine (begins_c s i _ true _ hs (by decide) HB.out).mono ?_; rintro e w' ⟨rfl, ⟨⟨n1, rfl⟩⟩⟩)
         go_quiet ((go_at_call 138; exact quiet_at (number_c s _ _ v k _ (by decide) hs (by omega) (by omega) HN.out)))
         go_wp2_with (go_at_call 92; refine (allowed_c v false _ HA.out).mono ?_; rintro e w' ⟨rfl, ⟨⟨n2, rfl⟩⟩⟩)
         go_roundw
         case rel => exact ⟨2, _, by omega, rfl, rfl, rfl, rfl, hR'⟩
         case measure => simp [intOf]
        ·have hd : decide (0 < k) = false := by simpa using h0
         go_wp2_with (go_at_call 137; refine (begins_c s i _ true _ hs (by decide) HB.out).mono ?_; rintro e w' ⟨rfl, ⟨⟨n1, rfl⟩⟩⟩)
         go_quiet ((go_at_call 138; exact quiet_at (number_c s _ _ v k _ (by decide) hs (by omega) (by omega) HN.out)))
         go_wp2_with (go_at_call 92; refine (allowed_c v b _ HA.out).mono ?_; rintro e w' ⟨rfl, ⟨⟨n2, rfl⟩⟩⟩)
         go_roundw
         case rel => exact ⟨2, _, by omega, rfl, rfl, rfl, rfl, hR'⟩
         case measure => simp [intOf]
      ·have hb' : begB s.data.toList i (ByteArray.mk #[38, 35]).data.toList = false := by simpa using hb
       have hR' : Hid (markFrom s.data.toList i (2 - 2) 2 = R) := Lib.hid (by
        rw [← hR.out]
        show _ = (if (begB s.data.toList i [38, 35] && goodAt s.data.toList i 1) = true then _ else _)
        rw [show begB s.data.toList i [38, 35] = false from hb', Bool.false_and, if_neg (by decide)])
       have HB := Lib.hid hb'
       clear hb hb' hR hj2
       go_wp2_with (go_at_call 137; refine (begins_c s i _ false _ hs (by decide) HB.out).mono ?_; rintro e w' ⟨rfl, ⟨⟨n1, rfl⟩⟩⟩)
       go_roundw
       case rel => exact ⟨2, _, by omega, rfl, rfl, rfl, rfl, hR'⟩
       case measure => simp [intOf]
  ·obtain rfl | rfl | rfl | rfl | rfl : j = 0 ∨ j = 1 ∨ j = 2 ∨ j = 3 ∨ j = 4 := by omega
   ·by_cases hb : begB s.data.toList i (ByteArray.mk #[38, 108, 116, 59]).data.toList = true
    ·have hRe : R = ([60], 4) := by
      rw [← hR.out]
      show (if begB s.data.toList i [38, 108, 116, 59] then _ else _) = _
      rw [if_pos hb]; rfl
     subst hRe
     clear hR
     have HB := Lib.hid hb
     clear hb
     go_wp2_with (go_at_call 137; refine (begins_c s i _ true _ hs (by decide) HB.out).mono ?_; rintro e w' ⟨rfl, ⟨⟨n1, rfl⟩⟩⟩)
     go_quiet (fail)
     go_wp2
     go_ret2
     exact zz60
    ·have hb' : begB s.data.toList i (ByteArray.mk #[38, 108, 116, 59]).data.toList = false := by simpa using hb
     have hR' : Hid (nameFrom s.data.toList i (5 - 1) 1 = R) := Lib.hid (by
      rw [← hR.out]
      show _ = (if begB s.data.toList i [38, 108, 116, 59] then _ else _)
      rw [if_neg hb])
     have HB := Lib.hid hb'
     clear hb hb' hR hj5
     go_wp2_with (go_at_call 137; refine (begins_c s i _ false _ hs (by decide) HB.out).mono ?_; rintro e w' ⟨rfl, ⟨⟨n1, rfl⟩⟩⟩)
     go_roundw
     case rel => exact ⟨1, _, by omega, rfl, rfl, rfl, rfl, hR'⟩
     case measure => simp [intOf]
   ·by_cases hb : begB s.data.toList i (ByteArray.mk #[38, 103, 116, 59]).data.toList = true
    ·have hRe : R = ([62], 4) := by
      rw [← hR.out]
      show (if begB s.data.toList i [38, 103, 116, 59] then _ else _) = _
      rw [if_pos hb]; rfl
     subst hRe
     clear hR
     have HB := Lib.hid hb
     clear hb
     go_wp2_with (go_at_call 137; refine (begins_c s i _ true _ hs (by decide) HB.out).mono ?_; rintro e w' ⟨rfl, ⟨⟨n1, rfl⟩⟩⟩)
     go_quiet (fail)
     go_wp2
     go_ret2
     exact zz60
    ·have hb' : begB s.data.toList i (ByteArray.mk #[38, 103, 116, 59]).data.toList = false := by simpa using hb
     have hR' : Hid (nameFrom s.data.toList i (5 - 2) 2 = R) := Lib.hid (by
      rw [← hR.out]
      show _ = (if begB s.data.toList i [38, 103, 116, 59] then _ else _)
      rw [if_neg hb])
     have HB := Lib.hid hb'
     clear hb hb' hR hj5
     go_wp2_with (go_at_call 137; refine (begins_c s i _ false _ hs (by decide) HB.out).mono ?_; rintro e w' ⟨rfl, ⟨⟨n1, rfl⟩⟩⟩)
     go_roundw
     case rel => exact ⟨2, _, by omega, rfl, rfl, rfl, rfl, hR'⟩
     case measure => simp [intOf]
   ·by_cases hb : begB s.data.toList i (ByteArray.mk #[38, 97, 109, 112, 59]).data.toList = true
    ·have hRe : R = ([38], 5) := by
      rw [← hR.out]
      show (if begB s.data.toList i [38, 97, 109, 112, 59] then _ else _) = _
      rw [if_pos hb]; rfl
     subst hRe
     clear hR
     have HB := Lib.hid hb
     clear hb
     go_wp2_with (go_at_call 137; refine (begins_c s i _ true _ hs (by decide) HB.out).mono ?_; rintro e w' ⟨rfl, ⟨⟨n1, rfl⟩⟩⟩)
     go_quiet (fail)
     go_wp2
     go_ret2
     exact zz60
    ·have hb' : begB s.data.toList i (ByteArray.mk #[38, 97, 109, 112, 59]).data.toList = false := by simpa using hb
     have hR' : Hid (nameFrom s.data.toList i (5 - 3) 3 = R) := Lib.hid (by
      rw [← hR.out]
      show _ = (if begB s.data.toList i [38, 97, 109, 112, 59] then _ else _)
      rw [if_neg hb])
     have HB := Lib.hid hb'
     clear hb hb' hR hj5
     go_wp2_with (go_at_call 137; refine (begins_c s i _ false _ hs (by decide) HB.out).mono ?_; rintro e w' ⟨rfl, ⟨⟨n1, rfl⟩⟩⟩)
     go_roundw
     case rel => exact ⟨3, _, by omega, rfl, rfl, rfl, rfl, hR'⟩
     case measure => simp [intOf]
   ·by_cases hb : begB s.data.toList i (ByteArray.mk #[38, 113, 117, 111, 116, 59]).data.toList = true
    ·have hRe : R = ([34], 6) := by
      rw [← hR.out]
      show (if begB s.data.toList i [38, 113, 117, 111, 116, 59] then _ else _) = _
      rw [if_pos hb]; rfl
     subst hRe
     clear hR
     have HB := Lib.hid hb
     clear hb
     go_wp2_with (go_at_call 137; refine (begins_c s i _ true _ hs (by decide) HB.out).mono ?_; rintro e w' ⟨rfl, ⟨⟨n1, rfl⟩⟩⟩)
     go_quiet (fail)
     go_wp2
     go_ret2
     exact zz60
    ·have hb' : begB s.data.toList i (ByteArray.mk #[38, 113, 117, 111, 116, 59]).data.toList = false := by simpa using hb
     have hR' : Hid (nameFrom s.data.toList i (5 - 4) 4 = R) := Lib.hid (by
      rw [← hR.out]
      show _ = (if begB s.data.toList i [38, 113, 117, 111, 116, 59] then _ else _)
      rw [if_neg hb])
     have HB := Lib.hid hb'
     clear hb hb' hR hj5
     go_wp2_with (go_at_call 137; refine (begins_c s i _ false _ hs (by decide) HB.out).mono ?_; rintro e w' ⟨rfl, ⟨⟨n1, rfl⟩⟩⟩)
     go_roundw
     case rel => exact ⟨4, _, by omega, rfl, rfl, rfl, rfl, hR'⟩
     case measure => simp [intOf]
   ·by_cases hb : begB s.data.toList i (ByteArray.mk #[38, 97, 112, 111, 115, 59]).data.toList = true
    ·have hRe : R = ([39], 6) := by
      rw [← hR.out]
      show (if begB s.data.toList i [38, 97, 112, 111, 115, 59] then _ else _) = _
      rw [if_pos hb]; rfl
     subst hRe
     clear hR
     have HB := Lib.hid hb
     clear hb
     go_wp2_with (go_at_call 137; refine (begins_c s i _ true _ hs (by decide) HB.out).mono ?_; rintro e w' ⟨rfl, ⟨⟨n1, rfl⟩⟩⟩)
     go_quiet (fail)
     go_wp2
     go_ret2
     exact zz60
    ·have hb' : begB s.data.toList i (ByteArray.mk #[38, 97, 112, 111, 115, 59]).data.toList = false := by simpa using hb
     have hR' : Hid (nameFrom s.data.toList i (5 - 5) 5 = R) := Lib.hid (by
      rw [← hR.out]
      show _ = (if begB s.data.toList i [38, 97, 112, 111, 115, 59] then _ else _)
      rw [if_neg hb])
     have HB := Lib.hid hb'
     clear hb hb' hR hj5
     go_wp2_with (go_at_call 137; refine (begins_c s i _ false _ hs (by decide) HB.out).mono ?_; rintro e w' ⟨rfl, ⟨⟨n1, rfl⟩⟩⟩)
     go_roundw
     case rel => exact ⟨5, _, by omega, rfl, rfl, rfl, rfl, hR'⟩
     case measure => simp [intOf]
end Go.Proofs.YtlhhhlimjajnlaaGreat.RefE
namespace Go.Proofs.YtlhhhlimjajnlaaGreat.X
open Go.RowKit Go.Proofs.YtlhhhlimjajnlaaGreatW.PrintWords
def R1_Entity.f (a0 : ByteArray) (a1 : Int) : Option (ByteArray × Int) := if a0.size ≤ 4294967296 then some (⟨(RefE.refEnt a0.data.toList a1).1.toArray⟩, (RefE.refEnt a0.data.toList a1).2) else none
theorem R1_Entity.calls (a0 : ByteArray) (a1 : Int) (r1 : ByteArray) (r2 : Int) (w : World) (h : R1_Entity.f a0 a1 = some (r1, r2)) :
 Calls Tryz.prog 118 #[.string a0, .int .i64 a1] w fun e w' => e = .returned (.tuple #[.string r1, .int .i64 r2]) ∧ Below w.heap.size w w' := by
 unfold R1_Entity.f at h
 split at h
 ·rename_i hs
  simp only [Option.some.injEq, Prod.mk.injEq] at h
  obtain ⟨rfl, rfl⟩ := h
  exact RefE.entity_c a0 a1 hs w
 ·cases h
end Go.Proofs.YtlhhhlimjajnlaaGreat.X
end
section
namespace Go.Proofs.YtlhhhlimjajnlaaGreat.X
end Go.Proofs.YtlhhhlimjajnlaaGreat.X
namespace Go.Proofs.YtlhhhlimjajnlaaGreat.Q
open Go.RowKit Go.Proofs.YtlhhhlimjajnlaaGreatW.PrintWords Go.Proofs.YtlhhhlimjajnlaaGreatW.PrintLast Go.Proofs.YtlhhhlimjajnlaaGreatW.PrintMore
attribute [local go_sem] max2_int min2_int max_two min_two max_three min_three max_four min_four   
open Go.Proofs.YtlhhhlimjajnlaaGreat.X
set_option linter.unusedVariables false
set_option linter.unusedSimpArgs false
def R2_decoded.l0 : Nat → ByteArray → ByteArray → Int → Option (ByteArray × Bool)
 | 0, _, _, _ => none
 | k + 1, x0, x4, x5 => if x5 < (x0.size : Int) then (if 0 ≤ x5 then (if (bt x0 x5) = 38 then ((R1_Entity.f x0 x5).bind fun bt172 => (if bt172.2 = 0 then (some ((⟨#[]⟩ : ByteArray), false)) else (if x4.size + bt172.1.size ≤ 9223372036854775807 then (R2_decoded.l0 k x0 (x4 ++ bt172.1) (wrap64 (x5 + bt172.2))) else (none)))) else (if x5 ≤ (wrap64 (x5 + 1)) then (if (wrap64 (x5 + 1)) ≤ (x0.size : Int) then (if x4.size + (x0.extract (x5 : Int).toNat ((wrap64 (x5 + 1)) : Int).toNat).size ≤ 9223372036854775807 then (R2_decoded.l0 k x0 (x4 ++ (x0.extract (x5 : Int).toNat ((wrap64 (x5 + 1)) : Int).toNat)) (wrap64 (x5 + 1))) else (none)) else (none)) else (none))) else (none)) else (some (x4, true))
def R2_decoded.f (k : Nat) (a0 : ByteArray) : Option (ByteArray × Bool) := R2_decoded.l0 k a0 (⟨#[]⟩ : ByteArray) 0
theorem R2_decoded.mono_l : ∀ k, (∀ y0 y1 y2, LeO (R2_decoded.l0 k y0 y1 y2) (R2_decoded.l0 (k + 1) y0 y1 y2))
 | 0 => fun _ _ _ r h => by simp [R2_decoded.l0] at h
 | k + 1 => by
  have ih0 := R2_decoded.mono_l k
  ·intro y0 y1 y2
   unfold R2_decoded.l0
   exact leT
theorem R2_decoded.mono : ∀ a0 k, LeO (R2_decoded.f k a0) (R2_decoded.f (k + 1) a0) := by
 intro a0 k
 have ih0 := R2_decoded.mono_l k
 unfold R2_decoded.f
 exact leT
set_option maxHeartbeats 8000000 in
set_option maxRecDepth 100000 in
theorem R2_decoded.calls (k : Nat) (a0 : ByteArray) (r1 : ByteArray) (r2 : Bool) (w : World) (h : R2_decoded.f k a0 = some (r1, r2)) :
 Calls Tryz.prog 96 #[.string a0] w fun e w' => e = .returned (.tuple #[.string r1, .bool r2]) ∧ Below w.heap.size w w' := by
 have HB := Aside0.mk (Below.refl w.heap.size w)
 have H : (R2_decoded.l0 k a0 (⟨#[]⟩ : ByteArray) 0) = some (r1, r2) := h
 clear h
 have H' := Aside0.mk H
 clear H
 go_enter Tryz.func96, Tryz.ntmps96
 go_wp2
 go_loopg [4, 5] k (fun kq v4 v5 w' => ∃ (x4_1 : ByteArray) (x5_1 : Int), v4 = .string x4_1 ∧ v5 = .int .i64 x5_1 ∧ Aside0 (R2_decoded.l0 kq a0 x4_1 x5_1 = some (r1, r2)) ∧ Aside0 (kq ≤ k) ∧ Aside0 (Below w.heap.size w w'))
 case atStart => exact ⟨((⟨#[]⟩ : ByteArray)), (0), (by rfl), (by rfl), H', ⟨Nat.le_refl _⟩, ⟨zz0⟩⟩
 case round =>
  clear H'
  obtain ⟨x4_1, x5_1, rfl, rfl, HA, HK1, HB⟩ := hrel
  cases gk with
  | zero => exact absurd HA.out (by simp [R2_decoded.l0])
  | succ k1 =>
   have H := HA.out
   clear HA
   simp only [R2_decoded.l0] at H
   revert H; refine X.ite_d (fun c2b0 H => ?_) (fun c2b0 H => ?_)
   by_cases c3 : 0 ≤ x5_1
   rw [if_pos c3] at H
   have c3b0 : decide (0 ≤ x5_1) = true := decide_eq_true c3
   clear c3
   revert H; refine X.ite_b (fun c5b0 c5b1 H => ?_) (fun c5b0 c5b1 H => ?_)
   replace H := Option.bind_eq_some_iff.mp H
   obtain ⟨⟨t172, t173⟩, A60, H⟩ := H
   dsimp only at H
   have A6 := Aside0.mk A60
   clear A60
   revert H; refine X.ite_b (fun c7b0 c7b1 H => ?_) (fun c7b0 c7b1 H => ?_)
   rotate_left
   by_cases c9 : x4_1.size + t172.size ≤ 9223372036854775807
   rw [if_pos c9] at H
   have c9b0 := eq_true c9
   have c9b1 : decide (x4_1.size + t172.size ≤ 9223372036854775807) = true := decide_eq_true c9
   have c9b2 : (9223372036854775807 < x4_1.size + t172.size) = False := eq_false (Nat.not_lt.2 c9)
   rotate_left
   ·rw [if_neg c9] at H
    exact absurd H (by simp)
   have c11b0 := eq_true (of_decide_eq_true (zz5) : 0 ≤ x5_1)
   by_cases c12 : x5_1 ≤ (wrap64 (x5_1 + 1))
   rw [if_pos c12] at H
   have c12b0 := eq_true c12
   have c12b1 : decide (x5_1 ≤ (wrap64 (x5_1 + 1))) = true := decide_eq_true c12
   by_cases c13 : (wrap64 (x5_1 + 1)) ≤ (a0.size : Int)
   rw [if_pos c13] at H
   have c13b0 := eq_true c13
   have c13b1 : decide ((wrap64 (x5_1 + 1)) ≤ (a0.size : Int)) = true := decide_eq_true c13
   by_cases c14 : x4_1.size + (a0.extract (x5_1 : Int).toNat ((wrap64 (x5_1 + 1)) : Int).toNat).size ≤ 9223372036854775807
   rw [if_pos c14] at H
   have c14b0 := eq_true c14
   have c14b1 : decide (x4_1.size + (a0.extract (x5_1 : Int).toNat ((wrap64 (x5_1 + 1)) : Int).toNat).size ≤ 9223372036854775807) = true := decide_eq_true c14
   have c14b2 : (9223372036854775807 < x4_1.size + (a0.extract (x5_1 : Int).toNat ((wrap64 (x5_1 + 1)) : Int).toNat).size) = False := eq_false (Nat.not_lt.2 c14)
   rotate_left
   ·rw [if_neg c14] at H
    exact absurd H (by simp)
   ·rw [if_neg c13] at H
    exact absurd H (by simp)
   ·rw [if_neg c12] at H
    exact absurd H (by simp)
   ·rw [if_neg c3] at H
    exact absurd H (by simp)
   ·simp only [Option.some.injEq, Prod.mk.injEq] at H
    obtain ⟨rfl, rfl⟩ := H
    go_wp2
    go_ret2
    exact ⟨by rfl, zz0⟩
   all_goals first
   | (simp only [Option.some.injEq, Prod.mk.injEq] at H
      obtain ⟨rfl, rfl⟩ := H
      have pz1 : 0 ≤ (x5_1 : Int) := of_decide_eq_true (zz5)
      have qz1 : x5_1 < (a0.size : Int) := of_decide_eq_true (zz5)
      have hxz1 := bt_at a0 x5_1
      replace pz1 := eq_true pz1
      replace qz1 := eq_true qz1
      go_wp2_with ((((with_reducible refine gate_callee (f := 118) rfl ?_); refine goesL_ (some 28) rfl rfl Tryz.func118 (by kernel_rfl) rfl #[.string a0, .int .i64 x5_1] rfl (zz1) ?_; (with_reducible refine (R1_Entity.calls a0 x5_1 t172 t173 _ A6.out).mono ?_); rintro e wz1 ⟨rfl, hb⟩; refine ⟨_, rfl, ?_⟩; have n0_ := Aside0.mk (below_step (zz0) hb); clear HB; have HB := n0_; clear n0_; (clear hb))))
      go_ret2
      exact ⟨by rfl, zz0⟩)
   | (have H' := Aside0.mk H
      clear H
      have pz1 : 0 ≤ (x5_1 : Int) := of_decide_eq_true (zz5)
      have qz1 : x5_1 < (a0.size : Int) := of_decide_eq_true (zz5)
      have hxz1 := bt_at a0 x5_1
      replace pz1 := eq_true pz1
      replace qz1 := eq_true qz1
      go_wp2_with ((((with_reducible refine gate_callee (f := 118) rfl ?_); refine goesL_ (some 28) rfl rfl Tryz.func118 (by kernel_rfl) rfl #[.string a0, .int .i64 x5_1] rfl (zz1) ?_; (with_reducible refine (R1_Entity.calls a0 x5_1 t172 t173 _ A6.out).mono ?_); rintro e w10 ⟨rfl, hb⟩; refine ⟨_, rfl, ?_⟩; have n0_ := Aside0.mk (below_step (zz0) hb); clear HB; have HB := n0_; clear n0_; (clear hb))))
      go_roundg k1
      case measure => have := HK1.out; omega
      case rel => first | (exact ⟨(x4_1 ++ t172), (wrap64 (x5_1 + t173)), (by rfl), (by rfl), H', ⟨zz49⟩, ⟨zz0⟩⟩) | (exact ⟨(x4_1 ++ (a0.extract (x5_1 : Int).toNat ((wrap64 (x5_1 + 1)) : Int).toNat)), (wrap64 (x5_1 + 1)), (by rfl), (by rfl), H', ⟨zz49⟩, ⟨zz0⟩⟩))
mutual
def R2_attr.j0 : Nat → ByteArray → Int → Int → Bool → Option (Int × Int × Int × ByteArray × ByteArray × Bool)
 | 0, _, _, _, _ => none
 | k + 1, x0, x6, x7, x27 => if x27 = true then (some (0, 0, 0, (⟨#[]⟩ : ByteArray), (⟨#[]⟩ : ByteArray), false)) else ((R1_Skip.f k x0 x7).bind fun t177 => ((R2_begins.f x0 t177 (⟨#[61]⟩ : ByteArray)).bind fun t178 => (if t178 = true then ((R1_Skip.f k x0 (wrap64 (t177 + 1))).bind fun t179 => ((R2_begins.f x0 t179 (⟨#[34]⟩ : ByteArray)).bind fun t180 => (if t180 = true then (R2_attr.j1 k x0 x6 x7 t179 false) else ((R2_begins.f x0 t179 (⟨#[39]⟩ : ByteArray)).bind fun t181 => (R2_attr.j1 k x0 x6 x7 t179 (!t181)))))) else (some (0, 0, 0, (⟨#[]⟩ : ByteArray), (⟨#[]⟩ : ByteArray), false)))))
def R2_attr.j1 : Nat → ByteArray → Int → Int → Int → Bool → Option (Int × Int × Int × ByteArray × ByteArray × Bool)
 | 0, _, _, _, _, _ => none
 | k + 1, x0, x6, x7, x9, x50 => if x50 = true then (some (0, 0, 0, (⟨#[]⟩ : ByteArray), (⟨#[]⟩ : ByteArray), false)) else (if 0 ≤ x9 then (if x9 ≤ (wrap64 (x9 + 1)) then (if (wrap64 (x9 + 1)) ≤ (x0.size : Int) then ((R2_find.f k x0 (wrap64 (x9 + 1)) (x0.extract (x9 : Int).toNat ((wrap64 (x9 + 1)) : Int).toNat)).bind fun t182 => (if t182 < 0 then (some (0, 0, 0, (⟨#[]⟩ : ByteArray), (⟨#[]⟩ : ByteArray), false)) else (if 0 ≤ (wrap64 (x9 + 1)) then (if (wrap64 (x9 + 1)) ≤ t182 then (if t182 ≤ (x0.size : Int) then ((R2_find.f k (x0.extract ((wrap64 (x9 + 1)) : Int).toNat (t182 : Int).toNat) 0 (⟨#[60]⟩ : ByteArray)).bind fun t183 => (if t183 ≥ 0 then (some (0, 0, 0, (⟨#[]⟩ : ByteArray), (⟨#[]⟩ : ByteArray), false)) else ((R2_decoded.f k (x0.extract ((wrap64 (x9 + 1)) : Int).toNat (t182 : Int).toNat)).bind fun bt184 => (if 0 ≤ x6 then (if x6 ≤ x7 then (if x7 ≤ (x0.size : Int) then (some (2, x6, wrap64 (t182 + 1), x0.extract (x6 : Int).toNat (x7 : Int).toNat, bt184.1, bt184.2)) else (none)) else (none)) else (none))))) else (none)) else (none)) else (none)))) else (none)) else (none)) else (none))
end
def R2_attr.f (k : Nat) (a0 : ByteArray) (a1 : Int) : Option (Int × Int × Int × ByteArray × ByteArray × Bool) := (R1_Skip.f k a0 a1).bind fun t175 => ((R1_NameEnd.f k a0 t175).bind fun t176 => (if t175 = a1 then (R2_attr.j0 k a0 t175 t176 true) else (R2_attr.j0 k a0 t175 t176 (t176 == t175))))
theorem R2_attr.mono_l : ∀ k, (∀ y0 y1 y2 y3, LeO (R2_attr.j0 k y0 y1 y2 y3) (R2_attr.j0 (k + 1) y0 y1 y2 y3)) ∧ (∀ y0 y1 y2 y3 y4, LeO (R2_attr.j1 k y0 y1 y2 y3 y4) (R2_attr.j1 (k + 1) y0 y1 y2 y3 y4))
 | 0 => ⟨fun _ _ _ _ r h => by simp [R2_attr.j0] at h, fun _ _ _ _ _ r h => by simp [R2_attr.j1] at h⟩
 | k + 1 => by
  obtain ⟨ih0, ih1⟩ := R2_attr.mono_l k
  refine ⟨?_, ?_⟩
  ·intro y0 y1 y2 y3
   unfold R2_attr.j0
   have mo0 := @R1_NameEnd.mono; have mo1 := @R1_Skip.mono; have mo2 := @R2_decoded.mono; have mo3 := @R2_find.mono; exact leT
  ·intro y0 y1 y2 y3 y4
   unfold R2_attr.j1
   have mo0 := @R1_NameEnd.mono; have mo1 := @R1_Skip.mono; have mo2 := @R2_decoded.mono; have mo3 := @R2_find.mono; exact leT
theorem R2_attr.mono : ∀ a0 a1 k, LeO (R2_attr.f k a0 a1) (R2_attr.f (k + 1) a0 a1) := by
 intro a0 a1 k
 obtain ⟨ih0, ih1⟩ := R2_attr.mono_l k
 unfold R2_attr.f
 have mo0 := @R1_NameEnd.mono; have mo1 := @R1_Skip.mono; have mo2 := @R2_decoded.mono; have mo3 := @R2_find.mono; exact leT
set_option maxHeartbeats 8000000 in
set_option maxRecDepth 100000 in
theorem R2_attr.calls (k : Nat) (a0 : ByteArray) (a1 : Int) (r1 : Int) (r2 : Int) (r3 : Int) (r4 : ByteArray) (r5 : ByteArray) (r6 : Bool) (w : World) (h : R2_attr.f k a0 a1 = some (r1, r2, r3, r4, r5, r6)) :
 Calls Tryz.prog 117 #[.string a0, .int .i64 a1] w fun e w' => e = .returned (.tuple #[.agg #[.int .i64 r1, .int .i64 r2, .int .i64 r3, .string r4, .string r5], .bool r6]) ∧ Below w.heap.size w w' := by
 have hu51 := Tryz.underlying51
 have HB := Aside0.mk (Below.refl w.heap.size w)
 have H : ((R1_Skip.f k a0 a1).bind fun t175 => ((R1_NameEnd.f k a0 t175).bind fun t176 => (if t175 = a1 then (R2_attr.j0 k a0 t175 t176 true) else (R2_attr.j0 k a0 t175 t176 (t176 == t175))))) = some (r1, r2, r3, r4, r5, r6) := h
 clear h
 replace H := Option.bind_eq_some_iff.mp H
 obtain ⟨t175, A30, H⟩ := H
 have A3 := Aside0.mk A30
 clear A30
 replace H := Option.bind_eq_some_iff.mp H
 obtain ⟨t176, A40, H⟩ := H
 have A4 := Aside0.mk A40
 clear A40
 have HC5 := Aside0.mk H
 clear H
 go_enter Tryz.func117, Tryz.ntmps117
 go_upto_region 3 with (first | ((with_reducible refine gate_dst (N := 4) rfl ?_); refine box_event ?hg (N := 4) ?hd (cs := #[.int .i64 0, .int .i64 0, .int .i64 0, .string (⟨#[]⟩ : ByteArray), .string (⟨#[]⟩ : ByteArray)]) (t := 51) ?hr ?_; (case hd => rfl); (case hg => rfl); (case hr => ((go_simp; done))); intro gb174 hg w6 hbox hb; have n0_ := Aside0.mk (below_step (zz0) hb); have n1_ := Aside0.mk (hbox); have n2_ := Aside0.mk ((zz18 : w.heap.size ≤ gb174)); have n3_ := Aside0.mk ((zz18 : w.heap.size ≤ gb174)); clear HB; have HB := n0_; have BK174 := n1_; have GW174 := n2_; have GE174 := n3_; clear n0_ n1_ n2_ n3_; clear hb hbox hg) | ((with_reducible refine gate_callee (f := 67) rfl ?_); refine goesL_ (some 16) rfl rfl Tryz.func67 (by kernel_rfl) rfl #[.string a0, .int .i64 a1] rfl (zz1) ?_; (with_reducible refine (R1_Skip.calls k a0 a1 t175 _ A3.out).mono ?_); rintro e w' ⟨rfl, ⟨nd, rfl⟩⟩; refine ⟨_, rfl, ?_⟩) | ((with_reducible refine gate_callee (f := 53) rfl ?_); refine goesL_ (some 19) rfl rfl Tryz.func53 (by kernel_rfl) rfl #[.string a0, .int .i64 t175] rfl (zz1) ?_; (with_reducible refine (R1_NameEnd.calls k a0 t175 t176 _ A4.out).mono ?_); rintro e w' ⟨rfl, ⟨nd, rfl⟩⟩; refine ⟨_, rfl, ?_⟩))
 go_cut [27] (fun v27 wc => ∃ (kq : Nat) (x27_4 : Bool), v27 = .bool x27_4 ∧ Aside0 (R2_attr.j0 kq a0 t175 t176 x27_4 = some (r1, r2, r3, r4, r5, r6)) ∧ Aside0 (kq ≤ k) ∧ Aside0 (wc.heap[gb174]? = some (.cells #[.int .i64 0, .int .i64 0, .int .i64 0, .string (⟨#[]⟩ : ByteArray), .string (⟨#[]⟩ : ByteArray)] 51 (0, 0))) ∧ Aside0 (Below w.heap.size w wc))
 case first =>
  have H := HC5.out
  clear HC5
  by_cases c7 : t175 = a1
  ·rw [if_pos c7] at H
   have c7b0 : (t175 == a1) = true := beq_iff_eq.mpr c7
   have c7b1 : (t175 != a1) = false := bne_eq_false_iff_eq.mpr c7
   clear c7
   have H' := Aside0.mk H
   clear H
   go_wp2
   go_meet
   case rel => exact ⟨_, (true), (by rfl), H', ⟨by omega⟩, ⟨zz29⟩, ⟨zz3⟩⟩
  ·rw [if_neg c7] at H
   have c7b0 : (t175 == a1) = false := beq_eq_false_iff_ne.mpr c7
   have c7b1 : (t175 != a1) = true := bne_iff_ne.mpr c7
   have H' := Aside0.mk H
   clear H
   go_wp2
   go_meet
   case rel => exact ⟨_, ((t176 == t175)), (by rfl), H', ⟨by omega⟩, ⟨zz29⟩, ⟨zz3⟩⟩
 case rest =>
  clear HC5
  obtain ⟨kq, x27_4, rfl, HA, HJ4, BK174, HB⟩ := hcut
  cases kq with
  | zero => exact absurd HA.out (by simp [R2_attr.j0])
  | succ kj4 =>
   have H := HA.out
   clear HA
   simp only [R2_attr.j0] at H
   by_cases c8 : x27_4 = true
   ·subst c8
    rw [if_pos rfl] at H
    simp only [Option.some.injEq, Prod.mk.injEq] at H
    obtain ⟨rfl, rfl, rfl, rfl, rfl, rfl⟩ := H
    have hcz9_0 : wc.cell? ⟨gb174, 0, none⟩ = some (.int .i64 0) := (blk_cell BK174.out 0).trans rfl
    have hcz9_1 : wc.cell? ⟨gb174, 1, none⟩ = some (.int .i64 0) := (blk_cell BK174.out 1).trans rfl
    have hcz9_2 : wc.cell? ⟨gb174, 2, none⟩ = some (.int .i64 0) := (blk_cell BK174.out 2).trans rfl
    have hcz9_3 : wc.cell? ⟨gb174, 3, none⟩ = some (.string (⟨#[]⟩ : ByteArray)) := (blk_cell BK174.out 3).trans rfl
    have hcz9_4 : wc.cell? ⟨gb174, 4, none⟩ = some (.string (⟨#[]⟩ : ByteArray)) := (blk_cell BK174.out 4).trans rfl
    have hfz9_0 := blk_frozen BK174.out 0
    have hfz9_1 := blk_frozen BK174.out 1
    have hfz9_2 := blk_frozen BK174.out 2
    have hfz9_3 := blk_frozen BK174.out 3
    have hfz9_4 := blk_frozen BK174.out 4
    go_wp2
    refine bodyPost_ret (results_ct rfl _ _ gb174 51 #[.int .i64 0, .int .i64 0, .int .i64 0, .string (⟨#[]⟩ : ByteArray), .string (⟨#[]⟩ : ByteArray)] (0, 0) _ rfl (by (with_reducible repeat (first | refine blk_drewN ?_ _ | refine blk_drew ?_ | refine blk_alloc ?_ _)); refine blk_put (cs := #[.int .i64 0, .int .i64 0, .int .i64 0, .string (⟨#[]⟩ : ByteArray), .string (⟨#[]⟩ : ByteArray)]) ?_ 4 _ rfl; (with_reducible repeat (first | refine blk_drewN ?_ _ | refine blk_drew ?_ | refine blk_alloc ?_ _)); refine blk_put (cs := #[.int .i64 0, .int .i64 0, .int .i64 0, .string (⟨#[]⟩ : ByteArray), .string (⟨#[]⟩ : ByteArray)]) ?_ 3 _ rfl; (with_reducible repeat (first | refine blk_drewN ?_ _ | refine blk_drew ?_ | refine blk_alloc ?_ _)); refine blk_put (cs := #[.int .i64 0, .int .i64 0, .int .i64 0, .string (⟨#[]⟩ : ByteArray), .string (⟨#[]⟩ : ByteArray)]) ?_ 2 _ rfl; (with_reducible repeat (first | refine blk_drewN ?_ _ | refine blk_drew ?_ | refine blk_alloc ?_ _)); refine blk_put (cs := #[.int .i64 0, .int .i64 0, .int .i64 0, .string (⟨#[]⟩ : ByteArray), .string (⟨#[]⟩ : ByteArray)]) ?_ 1 _ rfl; (with_reducible repeat (first | refine blk_drewN ?_ _ | refine blk_drew ?_ | refine blk_alloc ?_ _)); refine blk_put (cs := #[.int .i64 0, .int .i64 0, .int .i64 0, .string (⟨#[]⟩ : ByteArray), .string (⟨#[]⟩ : ByteArray)]) ?_ 0 _ rfl; (with_reducible repeat (first | refine blk_drewN ?_ _ | refine blk_drew ?_ | refine blk_alloc ?_ _)); exact BK174.out) Tryz.underlying51 rfl (by kernel_rfl)) rfl ?_
    exact zz38
   ·replace c8 := Bool.eq_false_iff.mpr c8
    subst c8
    rw [if_neg (show ¬ (false = true) by decide)] at H
    replace H := Option.bind_eq_some_iff.mp H
    obtain ⟨t177, A100, H⟩ := H
    have A10 := Aside0.mk A100
    clear A100
    replace H := Option.bind_eq_some_iff.mp H
    obtain ⟨t178, A110, H⟩ := H
    have A11 := Aside0.mk A110
    clear A110
    by_cases c12 : t178 = true
    ·subst c12
     rw [if_pos rfl] at H
     replace H := Option.bind_eq_some_iff.mp H
     obtain ⟨t179, A130, H⟩ := H
     have A13 := Aside0.mk A130
     clear A130
     have HC14 := Aside0.mk H
     clear H
     go_upto_region 9 with (first | ((with_reducible refine gate_callee (f := 67) rfl ?_); refine goesL_ (some 31) rfl rfl Tryz.func67 (by kernel_rfl) rfl #[.string a0, .int .i64 t176] rfl (zz1) ?_; (with_reducible refine (R1_Skip.calls kj4 a0 t176 t177 _ A10.out).mono ?_); rintro e w' ⟨rfl, ⟨nd, rfl⟩⟩; refine ⟨_, rfl, ?_⟩) | ((with_reducible refine gate_callee (f := 93) rfl ?_); refine goesL_ (some 34) rfl rfl Tryz.func93 (by kernel_rfl) rfl #[.string a0, .int .i64 t177, .string (⟨#[61]⟩ : ByteArray)] rfl (zz1) ?_; (with_reducible refine (R2_begins.calls a0 t177 (⟨#[61]⟩ : ByteArray) true _ A11.out).mono ?_); rintro e w' ⟨rfl, ⟨nd, rfl⟩⟩; refine ⟨_, rfl, ?_⟩) | ((with_reducible refine gate_callee (f := 67) rfl ?_); refine goesL_ (some 40) rfl rfl Tryz.func67 (by kernel_rfl) rfl #[.string a0, .int .i64 (wrap64 (t177 + 1))] rfl (zz1) ?_; (with_reducible refine (R1_Skip.calls kj4 a0 (wrap64 (t177 + 1)) t179 _ A13.out).mono ?_); rintro e w' ⟨rfl, ⟨nd, rfl⟩⟩; refine ⟨_, rfl, ?_⟩))
     go_cut [50] (fun v50 wc => ∃ (kq : Nat) (x50_13 : Bool), v50 = .bool x50_13 ∧ Aside0 (R2_attr.j1 kq a0 t175 t176 t179 x50_13 = some (r1, r2, r3, r4, r5, r6)) ∧ Aside0 (kq ≤ kj4) ∧ Aside0 (wc.heap[gb174]? = some (.cells #[.int .i64 0, .int .i64 0, .int .i64 0, .string (⟨#[]⟩ : ByteArray), .string (⟨#[]⟩ : ByteArray)] 51 (0, 0))) ∧ Aside0 (Below w.heap.size w wc))
     case first =>
      have H := HC14.out
      clear HC14
      replace H := Option.bind_eq_some_iff.mp H
      obtain ⟨t180, A150, H⟩ := H
      have A15 := Aside0.mk A150
      clear A150
      by_cases c16 : t180 = true
      ·subst c16
       rw [if_pos rfl] at H
       have H' := Aside0.mk H
       clear H
       go_wp2_with ((((with_reducible refine gate_callee (f := 93) rfl ?_); refine goesL_ (some 43) rfl rfl Tryz.func93 (by kernel_rfl) rfl #[.string a0, .int .i64 t179, .string (⟨#[34]⟩ : ByteArray)] rfl (zz1) ?_; (with_reducible refine (R2_begins.calls a0 t179 (⟨#[34]⟩ : ByteArray) true _ A15.out).mono ?_); rintro e w' ⟨rfl, ⟨nd, rfl⟩⟩; refine ⟨_, rfl, ?_⟩)))
       go_meet
       case rel => exact ⟨_, (false), (by rfl), H', ⟨by have := HJ4.out; omega⟩, ⟨zz29⟩, ⟨zz3⟩⟩
      ·replace c16 := Bool.eq_false_iff.mpr c16
       subst c16
       rw [if_neg (show ¬ (false = true) by decide)] at H
       replace H := Option.bind_eq_some_iff.mp H
       obtain ⟨t181, A170, H⟩ := H
       have A17 := Aside0.mk A170
       clear A170
       have H' := Aside0.mk H
       clear H
       go_wp2_with (first | ((with_reducible refine gate_callee (f := 93) rfl ?_); refine goesL_ (some 43) rfl rfl Tryz.func93 (by kernel_rfl) rfl #[.string a0, .int .i64 t179, .string (⟨#[34]⟩ : ByteArray)] rfl (zz1) ?_; (with_reducible refine (R2_begins.calls a0 t179 (⟨#[34]⟩ : ByteArray) false _ A15.out).mono ?_); rintro e w' ⟨rfl, ⟨nd, rfl⟩⟩; refine ⟨_, rfl, ?_⟩) | (go_at_call 93; (with_reducible refine (R2_begins.calls a0 t179 (⟨#[39]⟩ : ByteArray) t181 _ A17.out).mono ?_); rintro e w' ⟨rfl, ⟨nd, rfl⟩⟩))
       go_meet
       case rel => exact ⟨_, (!t181), (by rfl), H', ⟨by have := HJ4.out; omega⟩, ⟨zz29⟩, ⟨zz3⟩⟩
     case rest =>
      clear HC14
      obtain ⟨kq, x50_13, rfl, HA, HJ13, BK174, HB⟩ := hcut
      cases kq with
      | zero => exact absurd HA.out (by simp [R2_attr.j1])
      | succ kj13 =>
       have H := HA.out
       clear HA
       simp only [R2_attr.j1] at H
       by_cases c18 : x50_13 = true
       ·subst c18
        rw [if_pos rfl] at H
        simp only [Option.some.injEq, Prod.mk.injEq] at H
        obtain ⟨rfl, rfl, rfl, rfl, rfl, rfl⟩ := H
        have hcz19_0 : wc.cell? ⟨gb174, 0, none⟩ = some (.int .i64 0) := (blk_cell BK174.out 0).trans rfl
        have hcz19_1 : wc.cell? ⟨gb174, 1, none⟩ = some (.int .i64 0) := (blk_cell BK174.out 1).trans rfl
        have hcz19_2 : wc.cell? ⟨gb174, 2, none⟩ = some (.int .i64 0) := (blk_cell BK174.out 2).trans rfl
        have hcz19_3 : wc.cell? ⟨gb174, 3, none⟩ = some (.string (⟨#[]⟩ : ByteArray)) := (blk_cell BK174.out 3).trans rfl
        have hcz19_4 : wc.cell? ⟨gb174, 4, none⟩ = some (.string (⟨#[]⟩ : ByteArray)) := (blk_cell BK174.out 4).trans rfl
        have hfz19_0 := blk_frozen BK174.out 0
        have hfz19_1 := blk_frozen BK174.out 1
        have hfz19_2 := blk_frozen BK174.out 2
        have hfz19_3 := blk_frozen BK174.out 3
        have hfz19_4 := blk_frozen BK174.out 4
        go_wp2
        refine bodyPost_ret (results_ct rfl _ _ gb174 51 #[.int .i64 0, .int .i64 0, .int .i64 0, .string (⟨#[]⟩ : ByteArray), .string (⟨#[]⟩ : ByteArray)] (0, 0) _ rfl (by (with_reducible repeat (first | refine blk_drewN ?_ _ | refine blk_drew ?_ | refine blk_alloc ?_ _)); refine blk_put (cs := #[.int .i64 0, .int .i64 0, .int .i64 0, .string (⟨#[]⟩ : ByteArray), .string (⟨#[]⟩ : ByteArray)]) ?_ 4 _ rfl; (with_reducible repeat (first | refine blk_drewN ?_ _ | refine blk_drew ?_ | refine blk_alloc ?_ _)); refine blk_put (cs := #[.int .i64 0, .int .i64 0, .int .i64 0, .string (⟨#[]⟩ : ByteArray), .string (⟨#[]⟩ : ByteArray)]) ?_ 3 _ rfl; (with_reducible repeat (first | refine blk_drewN ?_ _ | refine blk_drew ?_ | refine blk_alloc ?_ _)); refine blk_put (cs := #[.int .i64 0, .int .i64 0, .int .i64 0, .string (⟨#[]⟩ : ByteArray), .string (⟨#[]⟩ : ByteArray)]) ?_ 2 _ rfl; (with_reducible repeat (first | refine blk_drewN ?_ _ | refine blk_drew ?_ | refine blk_alloc ?_ _)); refine blk_put (cs := #[.int .i64 0, .int .i64 0, .int .i64 0, .string (⟨#[]⟩ : ByteArray), .string (⟨#[]⟩ : ByteArray)]) ?_ 1 _ rfl; (with_reducible repeat (first | refine blk_drewN ?_ _ | refine blk_drew ?_ | refine blk_alloc ?_ _)); refine blk_put (cs := #[.int .i64 0, .int .i64 0, .int .i64 0, .string (⟨#[]⟩ : ByteArray), .string (⟨#[]⟩ : ByteArray)]) ?_ 0 _ rfl; (with_reducible repeat (first | refine blk_drewN ?_ _ | refine blk_drew ?_ | refine blk_alloc ?_ _)); exact BK174.out) Tryz.underlying51 rfl (by kernel_rfl)) rfl ?_
        exact zz38
       ·replace c18 := Bool.eq_false_iff.mpr c18
        subst c18
        rw [if_neg (show ¬ (false = true) by decide)] at H
        by_cases c20 : 0 ≤ t179
        ·rw [if_pos c20] at H
         have c20b0 := eq_true c20
         have c20b1 : decide (0 ≤ t179) = true := decide_eq_true c20
         clear c20
         by_cases c21 : t179 ≤ (wrap64 (t179 + 1))
         ·rw [if_pos c21] at H
          have c21b0 := eq_true c21
          have c21b1 : decide (t179 ≤ (wrap64 (t179 + 1))) = true := decide_eq_true c21
          by_cases c22 : (wrap64 (t179 + 1)) ≤ (a0.size : Int)
          ·rw [if_pos c22] at H
           have c22b0 := eq_true c22
           have c22b1 : decide ((wrap64 (t179 + 1)) ≤ (a0.size : Int)) = true := decide_eq_true c22
           replace H := Option.bind_eq_some_iff.mp H
           obtain ⟨t182, A230, H⟩ := H
           have A23 := Aside0.mk A230
           clear A230
           by_cases c24 : t182 < 0
           ·rw [if_pos c24] at H
            have c24b0 : decide (t182 < 0) = true := decide_eq_true c24
            clear c24
            simp only [Option.some.injEq, Prod.mk.injEq] at H
            obtain ⟨rfl, rfl, rfl, rfl, rfl, rfl⟩ := H
            go_wp2_with ((((with_reducible refine gate_callee (f := 94) rfl ?_); refine goesL_ (some 60) rfl rfl Tryz.func94 (by kernel_rfl) rfl #[.string a0, .int .i64 (wrap64 (t179 + 1)), .string (a0.extract (t179 : Int).toNat ((wrap64 (t179 + 1)) : Int).toNat)] rfl (zz1) ?_; (with_reducible refine (R2_find.calls kj13 a0 (wrap64 (t179 + 1)) (a0.extract (t179 : Int).toNat ((wrap64 (t179 + 1)) : Int).toNat) t182 _ A23.out).mono ?_); rintro e w' ⟨rfl, ⟨nd, rfl⟩⟩; refine ⟨_, rfl, ?_⟩; (((rw [drewN_self wc]; generalize hq_ : World.drewN wc _ = wc; have n0_ : Aside0 (wc.heap[gb174]? = some (.cells #[.int .i64 0, .int .i64 0, .int .i64 0, .string (⟨#[]⟩ : ByteArray), .string (⟨#[]⟩ : ByteArray)] 51 (0, 0))) := ⟨by rw [← hq_]; exact (zz29)⟩; have n1_ : Aside0 (Below w.heap.size w wc) := ⟨zz45⟩; clear BK174 HB hq_; have BK174 := n0_; have HB := n1_; clear n0_ n1_))); have hcz25_0 : wc.cell? ⟨gb174, 0, none⟩ = some (.int .i64 0) := (blk_cell BK174.out 0).trans rfl; have hcz25_1 : wc.cell? ⟨gb174, 1, none⟩ = some (.int .i64 0) := (blk_cell BK174.out 1).trans rfl; have hcz25_2 : wc.cell? ⟨gb174, 2, none⟩ = some (.int .i64 0) := (blk_cell BK174.out 2).trans rfl; have hcz25_3 : wc.cell? ⟨gb174, 3, none⟩ = some (.string (⟨#[]⟩ : ByteArray)) := (blk_cell BK174.out 3).trans rfl; have hcz25_4 : wc.cell? ⟨gb174, 4, none⟩ = some (.string (⟨#[]⟩ : ByteArray)) := (blk_cell BK174.out 4).trans rfl; have hfz25_0 := blk_frozen BK174.out 0; have hfz25_1 := blk_frozen BK174.out 1; have hfz25_2 := blk_frozen BK174.out 2; have hfz25_3 := blk_frozen BK174.out 3; have hfz25_4 := blk_frozen BK174.out 4)))
            refine bodyPost_ret (results_ct rfl _ _ gb174 51 #[.int .i64 0, .int .i64 0, .int .i64 0, .string (⟨#[]⟩ : ByteArray), .string (⟨#[]⟩ : ByteArray)] (0, 0) _ rfl (by (with_reducible repeat (first | refine blk_drewN ?_ _ | refine blk_drew ?_ | refine blk_alloc ?_ _)); refine blk_put (cs := #[.int .i64 0, .int .i64 0, .int .i64 0, .string (⟨#[]⟩ : ByteArray), .string (⟨#[]⟩ : ByteArray)]) ?_ 4 _ rfl; (with_reducible repeat (first | refine blk_drewN ?_ _ | refine blk_drew ?_ | refine blk_alloc ?_ _)); refine blk_put (cs := #[.int .i64 0, .int .i64 0, .int .i64 0, .string (⟨#[]⟩ : ByteArray), .string (⟨#[]⟩ : ByteArray)]) ?_ 3 _ rfl; (with_reducible repeat (first | refine blk_drewN ?_ _ | refine blk_drew ?_ | refine blk_alloc ?_ _)); refine blk_put (cs := #[.int .i64 0, .int .i64 0, .int .i64 0, .string (⟨#[]⟩ : ByteArray), .string (⟨#[]⟩ : ByteArray)]) ?_ 2 _ rfl; (with_reducible repeat (first | refine blk_drewN ?_ _ | refine blk_drew ?_ | refine blk_alloc ?_ _)); refine blk_put (cs := #[.int .i64 0, .int .i64 0, .int .i64 0, .string (⟨#[]⟩ : ByteArray), .string (⟨#[]⟩ : ByteArray)]) ?_ 1 _ rfl; (with_reducible repeat (first | refine blk_drewN ?_ _ | refine blk_drew ?_ | refine blk_alloc ?_ _)); refine blk_put (cs := #[.int .i64 0, .int .i64 0, .int .i64 0, .string (⟨#[]⟩ : ByteArray), .string (⟨#[]⟩ : ByteArray)]) ?_ 0 _ rfl; (with_reducible repeat (first | refine blk_drewN ?_ _ | refine blk_drew ?_ | refine blk_alloc ?_ _)); exact BK174.out) Tryz.underlying51 rfl (by kernel_rfl)) rfl ?_
            exact zz38
           ·rw [if_neg c24] at H
            have c24b0 : decide (t182 < 0) = false := decide_eq_false c24
            clear c24
            obtain ⟨ji26, hji26⟩ : ∃ j_ : Int, (wrap64 (t179 + 1)) = j_ := ⟨_, rfl⟩
            replace H : (if 0 ≤ (ji26) then (if (ji26) ≤ t182 then (if t182 ≤ (a0.size : Int) then ((R2_find.f kj13 (a0.extract ((ji26) : Int).toNat (t182 : Int).toNat) 0 (⟨#[60]⟩ : ByteArray)).bind fun t183 => (if t183 ≥ 0 then (some (0, 0, 0, (⟨#[]⟩ : ByteArray), (⟨#[]⟩ : ByteArray), false)) else ((R2_decoded.f kj13 (a0.extract ((ji26) : Int).toNat (t182 : Int).toNat)).bind fun bt184 => (if 0 ≤ t175 then (if t175 ≤ t176 then (if t176 ≤ (a0.size : Int) then (some (2, t175, wrap64 (t182 + 1), a0.extract (t175 : Int).toNat (t176 : Int).toNat, bt184.1, bt184.2)) else (none)) else (none)) else (none))))) else (none)) else (none)) else (none)) = some (r1, r2, r3, r4, r5, r6) := by ((rw [hji26] at H; exact H))
            (rw [hji26] at c21b0)
            (rw [hji26] at c21b1)
            (rw [hji26] at c21)
            (rw [hji26] at c22b0)
            (rw [hji26] at c22b1)
            (rw [hji26] at c22)
            (rw [hji26] at A23)
            have hji26w : (IntKind.i64.wrap (t179 + 1)) = ji26 := (i64_w _).trans hji26
            by_cases c27 : 0 ≤ (ji26)
            ·rw [if_pos c27] at H
             have c27b0 := eq_true c27
             have c27b1 : decide (0 ≤ (ji26)) = true := decide_eq_true c27
             clear c27
             by_cases c28 : (ji26) ≤ t182
             ·rw [if_pos c28] at H
              have c28b0 := eq_true c28
              have c28b1 : decide ((ji26) ≤ t182) = true := decide_eq_true c28
              clear c28
              by_cases c29 : t182 ≤ (a0.size : Int)
              ·rw [if_pos c29] at H
               have c29b0 := eq_true c29
               have c29b1 : decide (t182 ≤ (a0.size : Int)) = true := decide_eq_true c29
               clear c29
               replace H := Option.bind_eq_some_iff.mp H
               obtain ⟨t183, A300, H⟩ := H
               have A30 := Aside0.mk A300
               clear A300
               by_cases c31 : t183 ≥ 0
               ·rw [if_pos c31] at H
                have c31b0 : decide (0 ≤ t183) = true := decide_eq_true c31
                clear c31
                simp only [Option.some.injEq, Prod.mk.injEq] at H
                obtain ⟨rfl, rfl, rfl, rfl, rfl, rfl⟩ := H
                go_wp2_with (first | ((with_reducible refine gate_callee (f := 94) rfl ?_); refine goesL_ (some 60) rfl rfl Tryz.func94 (by kernel_rfl) rfl #[.string a0, .int .i64 ji26, .string (a0.extract (t179 : Int).toNat ((ji26) : Int).toNat)] rfl (zz1) ?_; (with_reducible refine (R2_find.calls kj13 a0 ji26 (a0.extract (t179 : Int).toNat ((ji26) : Int).toNat) t182 _ A23.out).mono ?_); rintro e w' ⟨rfl, ⟨nd, rfl⟩⟩; refine ⟨_, rfl, ?_⟩; (((rw [drewN_self wc]; generalize hq_ : World.drewN wc _ = wc; have n0_ : Aside0 (wc.heap[gb174]? = some (.cells #[.int .i64 0, .int .i64 0, .int .i64 0, .string (⟨#[]⟩ : ByteArray), .string (⟨#[]⟩ : ByteArray)] 51 (0, 0))) := ⟨by rw [← hq_]; exact (zz29)⟩; have n1_ : Aside0 (Below w.heap.size w wc) := ⟨zz45⟩; clear BK174 HB hq_; have BK174 := n0_; have HB := n1_; clear n0_ n1_)))) | ((with_reducible refine gate_callee (f := 94) rfl ?_); refine goesL_ (some 70) rfl rfl Tryz.func94 (by kernel_rfl) rfl #[.string (a0.extract ((ji26) : Int).toNat (t182 : Int).toNat), .int .i64 0, .string (⟨#[60]⟩ : ByteArray)] rfl (zz1) ?_; (with_reducible refine (R2_find.calls kj13 (a0.extract ((ji26) : Int).toNat (t182 : Int).toNat) 0 (⟨#[60]⟩ : ByteArray) t183 _ A30.out).mono ?_); rintro e w' ⟨rfl, ⟨nd, rfl⟩⟩; refine ⟨_, rfl, ?_⟩; (((rw [drewN_self wc]; generalize hq_ : World.drewN wc _ = wc; have n0_ : Aside0 (wc.heap[gb174]? = some (.cells #[.int .i64 0, .int .i64 0, .int .i64 0, .string (⟨#[]⟩ : ByteArray), .string (⟨#[]⟩ : ByteArray)] 51 (0, 0))) := ⟨by rw [← hq_]; exact (zz29)⟩; have n1_ : Aside0 (Below w.heap.size w wc) := ⟨zz45⟩; clear BK174 HB hq_; have BK174 := n0_; have HB := n1_; clear n0_ n1_))); have hcz32_0 : wc.cell? ⟨gb174, 0, none⟩ = some (.int .i64 0) := (blk_cell BK174.out 0).trans rfl; have hcz32_1 : wc.cell? ⟨gb174, 1, none⟩ = some (.int .i64 0) := (blk_cell BK174.out 1).trans rfl; have hcz32_2 : wc.cell? ⟨gb174, 2, none⟩ = some (.int .i64 0) := (blk_cell BK174.out 2).trans rfl; have hcz32_3 : wc.cell? ⟨gb174, 3, none⟩ = some (.string (⟨#[]⟩ : ByteArray)) := (blk_cell BK174.out 3).trans rfl; have hcz32_4 : wc.cell? ⟨gb174, 4, none⟩ = some (.string (⟨#[]⟩ : ByteArray)) := (blk_cell BK174.out 4).trans rfl; have hfz32_0 := blk_frozen BK174.out 0; have hfz32_1 := blk_frozen BK174.out 1; have hfz32_2 := blk_frozen BK174.out 2; have hfz32_3 := blk_frozen BK174.out 3; have hfz32_4 := blk_frozen BK174.out 4))
                refine bodyPost_ret (results_ct rfl _ _ gb174 51 #[.int .i64 0, .int .i64 0, .int .i64 0, .string (⟨#[]⟩ : ByteArray), .string (⟨#[]⟩ : ByteArray)] (0, 0) _ rfl (by (with_reducible repeat (first | refine blk_drewN ?_ _ | refine blk_drew ?_ | refine blk_alloc ?_ _)); refine blk_put (cs := #[.int .i64 0, .int .i64 0, .int .i64 0, .string (⟨#[]⟩ : ByteArray), .string (⟨#[]⟩ : ByteArray)]) ?_ 4 _ rfl; (with_reducible repeat (first | refine blk_drewN ?_ _ | refine blk_drew ?_ | refine blk_alloc ?_ _)); refine blk_put (cs := #[.int .i64 0, .int .i64 0, .int .i64 0, .string (⟨#[]⟩ : ByteArray), .string (⟨#[]⟩ : ByteArray)]) ?_ 3 _ rfl; (with_reducible repeat (first | refine blk_drewN ?_ _ | refine blk_drew ?_ | refine blk_alloc ?_ _)); refine blk_put (cs := #[.int .i64 0, .int .i64 0, .int .i64 0, .string (⟨#[]⟩ : ByteArray), .string (⟨#[]⟩ : ByteArray)]) ?_ 2 _ rfl; (with_reducible repeat (first | refine blk_drewN ?_ _ | refine blk_drew ?_ | refine blk_alloc ?_ _)); refine blk_put (cs := #[.int .i64 0, .int .i64 0, .int .i64 0, .string (⟨#[]⟩ : ByteArray), .string (⟨#[]⟩ : ByteArray)]) ?_ 1 _ rfl; (with_reducible repeat (first | refine blk_drewN ?_ _ | refine blk_drew ?_ | refine blk_alloc ?_ _)); refine blk_put (cs := #[.int .i64 0, .int .i64 0, .int .i64 0, .string (⟨#[]⟩ : ByteArray), .string (⟨#[]⟩ : ByteArray)]) ?_ 0 _ rfl; (with_reducible repeat (first | refine blk_drewN ?_ _ | refine blk_drew ?_ | refine blk_alloc ?_ _)); exact BK174.out) Tryz.underlying51 rfl (by kernel_rfl)) rfl ?_
                exact zz38
               ·rw [if_neg c31] at H
                have c31b0 : decide (0 ≤ t183) = false := decide_eq_false c31
                clear c31
                replace H := Option.bind_eq_some_iff.mp H
                obtain ⟨⟨t184, t185⟩, A330, H⟩ := H
                dsimp only at H
                have A33 := Aside0.mk A330
                clear A330
                by_cases c34 : 0 ≤ t175
                ·rw [if_pos c34] at H
                 have c34b0 := eq_true c34
                 have c34b1 : decide (0 ≤ t175) = true := decide_eq_true c34
                 clear c34
                 by_cases c35 : t175 ≤ t176
                 ·rw [if_pos c35] at H
                  have c35b0 := eq_true c35
                  have c35b1 : decide (t175 ≤ t176) = true := decide_eq_true c35
                  clear c35
                  by_cases c36 : t176 ≤ (a0.size : Int)
                  ·rw [if_pos c36] at H
                   have c36b0 := eq_true c36
                   have c36b1 : decide (t176 ≤ (a0.size : Int)) = true := decide_eq_true c36
                   clear c36
                   simp only [Option.some.injEq, Prod.mk.injEq] at H
                   obtain ⟨rfl, rfl, rfl, rfl, rfl, rfl⟩ := H
                   go_wp2_with (first | ((with_reducible refine gate_callee (f := 94) rfl ?_); refine goesL_ (some 60) rfl rfl Tryz.func94 (by kernel_rfl) rfl #[.string a0, .int .i64 ji26, .string (a0.extract (t179 : Int).toNat ((ji26) : Int).toNat)] rfl (zz1) ?_; (with_reducible refine (R2_find.calls kj13 a0 ji26 (a0.extract (t179 : Int).toNat ((ji26) : Int).toNat) t182 _ A23.out).mono ?_); rintro e w' ⟨rfl, ⟨nd, rfl⟩⟩; refine ⟨_, rfl, ?_⟩; (((rw [drewN_self wc]; generalize hq_ : World.drewN wc _ = wc; have n0_ : Aside0 (wc.heap[gb174]? = some (.cells #[.int .i64 0, .int .i64 0, .int .i64 0, .string (⟨#[]⟩ : ByteArray), .string (⟨#[]⟩ : ByteArray)] 51 (0, 0))) := ⟨by rw [← hq_]; exact (zz29)⟩; have n1_ : Aside0 (Below w.heap.size w wc) := ⟨zz45⟩; clear BK174 HB hq_; have BK174 := n0_; have HB := n1_; clear n0_ n1_)))) | ((with_reducible refine gate_callee (f := 94) rfl ?_); refine goesL_ (some 70) rfl rfl Tryz.func94 (by kernel_rfl) rfl #[.string (a0.extract ((ji26) : Int).toNat (t182 : Int).toNat), .int .i64 0, .string (⟨#[60]⟩ : ByteArray)] rfl (zz1) ?_; (with_reducible refine (R2_find.calls kj13 (a0.extract ((ji26) : Int).toNat (t182 : Int).toNat) 0 (⟨#[60]⟩ : ByteArray) t183 _ A30.out).mono ?_); rintro e w' ⟨rfl, ⟨nd, rfl⟩⟩; refine ⟨_, rfl, ?_⟩; (((rw [drewN_self wc]; generalize hq_ : World.drewN wc _ = wc; have n0_ : Aside0 (wc.heap[gb174]? = some (.cells #[.int .i64 0, .int .i64 0, .int .i64 0, .string (⟨#[]⟩ : ByteArray), .string (⟨#[]⟩ : ByteArray)] 51 (0, 0))) := ⟨by rw [← hq_]; exact (zz29)⟩; have n1_ : Aside0 (Below w.heap.size w wc) := ⟨zz45⟩; clear BK174 HB hq_; have BK174 := n0_; have HB := n1_; clear n0_ n1_)))) | ((with_reducible refine gate_callee (f := 96) rfl ?_); refine goesL_ (some 75) rfl rfl Tryz.func96 (by kernel_rfl) rfl #[.string (a0.extract ((ji26) : Int).toNat (t182 : Int).toNat)] rfl (zz1) ?_; (with_reducible refine (R2_decoded.calls kj13 (a0.extract ((ji26) : Int).toNat (t182 : Int).toNat) t184 t185 _ A33.out).mono ?_); rintro e w37 ⟨rfl, hb⟩; refine ⟨_, rfl, ?_⟩; have n0_ := Aside0.mk (blk_below (g := gb174) (o := .cells #[.int .i64 0, .int .i64 0, .int .i64 0, .string (⟨#[]⟩ : ByteArray), .string (⟨#[]⟩ : ByteArray)] 51 (0, 0)) (by (with_reducible repeat (first | refine blk_drewN ?_ _ | refine blk_drew ?_ | refine blk_alloc ?_ _)); exact BK174.out) hb); have n1_ := Aside0.mk (below_step (zz0) hb); clear BK174; clear HB; have BK174 := n0_; have HB := n1_; clear n0_ n1_; (clear hb); have hcz38_0 : w37.cell? ⟨gb174, 0, none⟩ = some (.int .i64 0) := (blk_cell BK174.out 0).trans rfl; have hcz38_1 : w37.cell? ⟨gb174, 1, none⟩ = some (.int .i64 0) := (blk_cell BK174.out 1).trans rfl; have hcz38_2 : w37.cell? ⟨gb174, 2, none⟩ = some (.int .i64 0) := (blk_cell BK174.out 2).trans rfl; have hcz38_3 : w37.cell? ⟨gb174, 3, none⟩ = some (.string (⟨#[]⟩ : ByteArray)) := (blk_cell BK174.out 3).trans rfl; have hcz38_4 : w37.cell? ⟨gb174, 4, none⟩ = some (.string (⟨#[]⟩ : ByteArray)) := (blk_cell BK174.out 4).trans rfl; have hfz38_0 := blk_frozen BK174.out 0; have hfz38_1 := blk_frozen BK174.out 1; have hfz38_2 := blk_frozen BK174.out 2; have hfz38_3 := blk_frozen BK174.out 3; have hfz38_4 := blk_frozen BK174.out 4))
                   refine bodyPost_ret (results_ct rfl _ _ gb174 51 #[.int .i64 2, .int .i64 t175, .int .i64 (wrap64 (t182 + 1)), .string (a0.extract (t175 : Int).toNat (t176 : Int).toNat), .string t184] (0, 0) _ rfl (by (with_reducible repeat (first | refine blk_drewN ?_ _ | refine blk_drew ?_ | refine blk_alloc ?_ _)); refine blk_put (cs := #[.int .i64 2, .int .i64 t175, .int .i64 (wrap64 (t182 + 1)), .string (a0.extract (t175 : Int).toNat (t176 : Int).toNat), .string (⟨#[]⟩ : ByteArray)]) ?_ 4 _ rfl; (with_reducible repeat (first | refine blk_drewN ?_ _ | refine blk_drew ?_ | refine blk_alloc ?_ _)); refine blk_put (cs := #[.int .i64 2, .int .i64 t175, .int .i64 (wrap64 (t182 + 1)), .string (⟨#[]⟩ : ByteArray), .string (⟨#[]⟩ : ByteArray)]) ?_ 3 _ rfl; (with_reducible repeat (first | refine blk_drewN ?_ _ | refine blk_drew ?_ | refine blk_alloc ?_ _)); refine blk_put (cs := #[.int .i64 2, .int .i64 t175, .int .i64 0, .string (⟨#[]⟩ : ByteArray), .string (⟨#[]⟩ : ByteArray)]) ?_ 2 _ rfl; (with_reducible repeat (first | refine blk_drewN ?_ _ | refine blk_drew ?_ | refine blk_alloc ?_ _)); refine blk_put (cs := #[.int .i64 2, .int .i64 0, .int .i64 0, .string (⟨#[]⟩ : ByteArray), .string (⟨#[]⟩ : ByteArray)]) ?_ 1 _ rfl; (with_reducible repeat (first | refine blk_drewN ?_ _ | refine blk_drew ?_ | refine blk_alloc ?_ _)); refine blk_put (cs := #[.int .i64 0, .int .i64 0, .int .i64 0, .string (⟨#[]⟩ : ByteArray), .string (⟨#[]⟩ : ByteArray)]) ?_ 0 _ rfl; (with_reducible repeat (first | refine blk_drewN ?_ _ | refine blk_drew ?_ | refine blk_alloc ?_ _)); exact BK174.out) Tryz.underlying51 rfl (by kernel_rfl)) rfl ?_
                   exact zz38
                  ·rw [if_neg c36] at H
                   exact absurd H (by simp)
                 ·rw [if_neg c35] at H
                  exact absurd H (by simp)
                ·rw [if_neg c34] at H
                 exact absurd H (by simp)
              ·rw [if_neg c29] at H
               exact absurd H (by simp)
             ·rw [if_neg c28] at H
              exact absurd H (by simp)
            ·rw [if_neg c27] at H
             exact absurd H (by simp)
          ·rw [if_neg c22] at H
           exact absurd H (by simp)
         ·rw [if_neg c21] at H
          exact absurd H (by simp)
        ·rw [if_neg c20] at H
         exact absurd H (by simp)
    ·replace c12 := Bool.eq_false_iff.mpr c12
     subst c12
     rw [if_neg (show ¬ (false = true) by decide)] at H
     simp only [Option.some.injEq, Prod.mk.injEq] at H
     obtain ⟨rfl, rfl, rfl, rfl, rfl, rfl⟩ := H
     go_wp2_with (first | ((with_reducible refine gate_callee (f := 67) rfl ?_); refine goesL_ (some 31) rfl rfl Tryz.func67 (by kernel_rfl) rfl #[.string a0, .int .i64 t176] rfl (zz1) ?_; (with_reducible refine (R1_Skip.calls kj4 a0 t176 t177 _ A10.out).mono ?_); rintro e w' ⟨rfl, ⟨nd, rfl⟩⟩; refine ⟨_, rfl, ?_⟩; (((rw [drewN_self wc]; generalize hq_ : World.drewN wc _ = wc; have n0_ : Aside0 (wc.heap[gb174]? = some (.cells #[.int .i64 0, .int .i64 0, .int .i64 0, .string (⟨#[]⟩ : ByteArray), .string (⟨#[]⟩ : ByteArray)] 51 (0, 0))) := ⟨by rw [← hq_]; exact (zz29)⟩; have n1_ : Aside0 (Below w.heap.size w wc) := ⟨zz45⟩; clear BK174 HB hq_; have BK174 := n0_; have HB := n1_; clear n0_ n1_)))) | ((with_reducible refine gate_callee (f := 93) rfl ?_); refine goesL_ (some 34) rfl rfl Tryz.func93 (by kernel_rfl) rfl #[.string a0, .int .i64 t177, .string (⟨#[61]⟩ : ByteArray)] rfl (zz1) ?_; (with_reducible refine (R2_begins.calls a0 t177 (⟨#[61]⟩ : ByteArray) false _ A11.out).mono ?_); rintro e w' ⟨rfl, ⟨nd, rfl⟩⟩; refine ⟨_, rfl, ?_⟩; (((rw [drewN_self wc]; generalize hq_ : World.drewN wc _ = wc; have n0_ : Aside0 (wc.heap[gb174]? = some (.cells #[.int .i64 0, .int .i64 0, .int .i64 0, .string (⟨#[]⟩ : ByteArray), .string (⟨#[]⟩ : ByteArray)] 51 (0, 0))) := ⟨by rw [← hq_]; exact (zz29)⟩; have n1_ : Aside0 (Below w.heap.size w wc) := ⟨zz45⟩; clear BK174 HB hq_; have BK174 := n0_; have HB := n1_; clear n0_ n1_))); have hcz39_0 : wc.cell? ⟨gb174, 0, none⟩ = some (.int .i64 0) := (blk_cell BK174.out 0).trans rfl; have hcz39_1 : wc.cell? ⟨gb174, 1, none⟩ = some (.int .i64 0) := (blk_cell BK174.out 1).trans rfl; have hcz39_2 : wc.cell? ⟨gb174, 2, none⟩ = some (.int .i64 0) := (blk_cell BK174.out 2).trans rfl; have hcz39_3 : wc.cell? ⟨gb174, 3, none⟩ = some (.string (⟨#[]⟩ : ByteArray)) := (blk_cell BK174.out 3).trans rfl; have hcz39_4 : wc.cell? ⟨gb174, 4, none⟩ = some (.string (⟨#[]⟩ : ByteArray)) := (blk_cell BK174.out 4).trans rfl; have hfz39_0 := blk_frozen BK174.out 0; have hfz39_1 := blk_frozen BK174.out 1; have hfz39_2 := blk_frozen BK174.out 2; have hfz39_3 := blk_frozen BK174.out 3; have hfz39_4 := blk_frozen BK174.out 4))
     refine bodyPost_ret (results_ct rfl _ _ gb174 51 #[.int .i64 0, .int .i64 0, .int .i64 0, .string (⟨#[]⟩ : ByteArray), .string (⟨#[]⟩ : ByteArray)] (0, 0) _ rfl (by (with_reducible repeat (first | refine blk_drewN ?_ _ | refine blk_drew ?_ | refine blk_alloc ?_ _)); refine blk_put (cs := #[.int .i64 0, .int .i64 0, .int .i64 0, .string (⟨#[]⟩ : ByteArray), .string (⟨#[]⟩ : ByteArray)]) ?_ 4 _ rfl; (with_reducible repeat (first | refine blk_drewN ?_ _ | refine blk_drew ?_ | refine blk_alloc ?_ _)); refine blk_put (cs := #[.int .i64 0, .int .i64 0, .int .i64 0, .string (⟨#[]⟩ : ByteArray), .string (⟨#[]⟩ : ByteArray)]) ?_ 3 _ rfl; (with_reducible repeat (first | refine blk_drewN ?_ _ | refine blk_drew ?_ | refine blk_alloc ?_ _)); refine blk_put (cs := #[.int .i64 0, .int .i64 0, .int .i64 0, .string (⟨#[]⟩ : ByteArray), .string (⟨#[]⟩ : ByteArray)]) ?_ 2 _ rfl; (with_reducible repeat (first | refine blk_drewN ?_ _ | refine blk_drew ?_ | refine blk_alloc ?_ _)); refine blk_put (cs := #[.int .i64 0, .int .i64 0, .int .i64 0, .string (⟨#[]⟩ : ByteArray), .string (⟨#[]⟩ : ByteArray)]) ?_ 1 _ rfl; (with_reducible repeat (first | refine blk_drewN ?_ _ | refine blk_drew ?_ | refine blk_alloc ?_ _)); refine blk_put (cs := #[.int .i64 0, .int .i64 0, .int .i64 0, .string (⟨#[]⟩ : ByteArray), .string (⟨#[]⟩ : ByteArray)]) ?_ 0 _ rfl; (with_reducible repeat (first | refine blk_drewN ?_ _ | refine blk_drew ?_ | refine blk_alloc ?_ _)); exact BK174.out) Tryz.underlying51 rfl (by kernel_rfl)) rfl ?_
     exact zz38
def R2_tag.l0 : Nat → ByteArray → List (S51) → Option ((List (S51)) × Bool)
 | 0, _, _ => none
 | k + 1, x0, x7 => if 0 ≤ (wrap64 ((x7.length : Int) - 1)) then (if (wrap64 ((x7.length : Int) - 1)) < (x7.length : Int) then ((R1_Skip.f k x0 ((rd_T51 x7 (wrap64 ((x7.length : Int) - 1))).f2)).bind fun t191 => ((R2_begins.f x0 t191 (⟨#[62]⟩ : ByteArray)).bind fun t192 => (if t192 = true then (if x7.length < 2513169434916 then (some ((x7 ++ [(⟨3, t191, wrap64 (t191 + 1), (⟨#[]⟩ : ByteArray), (⟨#[]⟩ : ByteArray)⟩ : S51)]), true)) else (none)) else ((R2_begins.f x0 t191 (⟨#[47, 62]⟩ : ByteArray)).bind fun t196 => (if t196 = true then (if x7.length < 2513169434916 then (some ((x7 ++ [(⟨4, t191, wrap64 (t191 + 2), (⟨#[]⟩ : ByteArray), (⟨#[]⟩ : ByteArray)⟩ : S51)]), true)) else (none)) else ((R2_attr.f k x0 ((rd_T51 x7 (wrap64 ((x7.length : Int) - 1))).f2)).bind fun bt200 => (if bt200.2.2.2.2.2 = true then (if x7.length < 2513169434916 then (R2_tag.l0 k x0 (x7 ++ [(⟨bt200.1, bt200.2.1, bt200.2.2.1, bt200.2.2.2.1, bt200.2.2.2.2.1⟩ : S51)])) else (none)) else (some (([] : List (S51)), false))))))))) else (none)) else (none)
def R2_tag.f (k : Nat) (a0 : ByteArray) (a1 : Int) : Option ((List (S51)) × Bool) := (R1_NameEnd.f k a0 (wrap64 (a1 + 1))).bind fun t186 => (if t186 = (wrap64 (a1 + 1)) then (some (([] : List (S51)), false)) else (if 0 ≤ (wrap64 (a1 + 1)) then (if (wrap64 (a1 + 1)) ≤ t186 then (if t186 ≤ (a0.size : Int) then (R2_tag.l0 k a0 (([(⟨1, a1, t186, a0.extract ((wrap64 (a1 + 1)) : Int).toNat (t186 : Int).toNat, (⟨#[]⟩ : ByteArray)⟩ : S51)] : List (S51)))) else (none)) else (none)) else (none)))
theorem R2_tag.mono_l : ∀ k, (∀ y0 y1, LeO (R2_tag.l0 k y0 y1) (R2_tag.l0 (k + 1) y0 y1))
 | 0 => fun _ _ r h => by simp [R2_tag.l0] at h
 | k + 1 => by
  have ih0 := R2_tag.mono_l k
  ·intro y0 y1
   unfold R2_tag.l0
   have mo0 := @R1_NameEnd.mono; have mo1 := @R1_Skip.mono; have mo2 := @R2_attr.mono; exact leT
theorem R2_tag.mono : ∀ a0 a1 k, LeO (R2_tag.f k a0 a1) (R2_tag.f (k + 1) a0 a1) := by
 intro a0 a1 k
 have ih0 := R2_tag.mono_l k
 unfold R2_tag.f
 have mo0 := @R1_NameEnd.mono; have mo1 := @R1_Skip.mono; have mo2 := @R2_attr.mono; exact leT
set_option maxHeartbeats 8000000 in
set_option maxRecDepth 100000 in
theorem R2_tag.calls (k : Nat) (a0 : ByteArray) (a1 : Int) (r1 : List (S51)) (r2 : Bool) (w : World) (h : R2_tag.f k a0 a1 = some (r1, r2)) :
 Calls Tryz.prog 95 #[.string a0, .int .i64 a1] w fun e w' => ∃ v0_ : Value, e = .returned (.tuple #[v0_, .bool r2]) ∧ Kd.R k51 51 w' w.heap.size (fun _ => True) v0_ r1 ∧ Below w.heap.size w w' := by
 have hu51 := Tryz.underlying51
 have HB := Aside0.mk (Below.refl w.heap.size w)
 have H : ((R1_NameEnd.f k a0 (wrap64 (a1 + 1))).bind fun t186 => (if t186 = (wrap64 (a1 + 1)) then (some (([] : List (S51)), false)) else (if 0 ≤ (wrap64 (a1 + 1)) then (if (wrap64 (a1 + 1)) ≤ t186 then (if t186 ≤ (a0.size : Int) then (R2_tag.l0 k a0 (([(⟨1, a1, t186, a0.extract ((wrap64 (a1 + 1)) : Int).toNat (t186 : Int).toNat, (⟨#[]⟩ : ByteArray)⟩ : S51)] : List (S51)))) else (none)) else (none)) else (none)))) = some (r1, r2) := h
 clear h
 replace H := Option.bind_eq_some_iff.mp H
 obtain ⟨t186, A30, H⟩ := H
 have A3 := Aside0.mk A30
 clear A30
 by_cases c4 : t186 = (wrap64 (a1 + 1))
 ·rw [if_pos c4] at H
  have c4b0 : (t186 == (wrap64 (a1 + 1))) = true := beq_iff_eq.mpr c4
  have c4b1 : (t186 != (wrap64 (a1 + 1))) = false := bne_eq_false_iff_eq.mpr c4
  clear c4
  simp only [Option.some.injEq, Prod.mk.injEq] at H
  obtain ⟨rfl, rfl⟩ := H
  go_enter Tryz.func95, Tryz.ntmps95
  go_wp2_with ((((with_reducible refine gate_callee (f := 53) rfl ?_); refine goesL_ (some 15) rfl rfl Tryz.func53 (by kernel_rfl) rfl #[.string a0, .int .i64 (wrap64 (a1 + 1))] rfl (zz1) ?_; (with_reducible refine (R1_NameEnd.calls k a0 (wrap64 (a1 + 1)) t186 _ A3.out).mono ?_); rintro e w' ⟨rfl, ⟨nd, rfl⟩⟩; refine ⟨_, rfl, ?_⟩)))
  go_ret2
  exact ⟨_, by rfl, zz33, zz3⟩
 ·rw [if_neg c4] at H
  have c4b0 : (t186 == (wrap64 (a1 + 1))) = false := beq_eq_false_iff_ne.mpr c4
  have c4b1 : (t186 != (wrap64 (a1 + 1))) = true := bne_iff_ne.mpr c4
  obtain ⟨ji5, hji5⟩ : ∃ j_ : Int, (wrap64 (a1 + 1)) = j_ := ⟨_, rfl⟩
  replace H : (if 0 ≤ (ji5) then (if (ji5) ≤ t186 then (if t186 ≤ (a0.size : Int) then (R2_tag.l0 k a0 (([(⟨1, a1, t186, a0.extract ((ji5) : Int).toNat (t186 : Int).toNat, (⟨#[]⟩ : ByteArray)⟩ : S51)] : List (S51)))) else (none)) else (none)) else (none)) = some (r1, r2) := by ((rw [hji5] at H; exact H))
  (rw [hji5] at c4b0)
  (rw [hji5] at c4b1)
  (rw [hji5] at A3)
  have hji5w : (IntKind.i64.wrap (a1 + 1)) = ji5 := (i64_w _).trans hji5
  by_cases c6 : 0 ≤ (ji5)
  ·rw [if_pos c6] at H
   have c6b0 := eq_true c6
   have c6b1 : decide (0 ≤ (ji5)) = true := decide_eq_true c6
   clear c6
   by_cases c7 : (ji5) ≤ t186
   ·rw [if_pos c7] at H
    have c7b0 := eq_true c7
    have c7b1 : decide ((ji5) ≤ t186) = true := decide_eq_true c7
    clear c7
    by_cases c8 : t186 ≤ (a0.size : Int)
    ·rw [if_pos c8] at H
     have c8b0 := eq_true c8
     have c8b1 : decide (t186 ≤ (a0.size : Int)) = true := decide_eq_true c8
     clear c8
     obtain ⟨y187, hy187⟩ : ∃ y_ : List (S51), y_ = (([(⟨1, a1, t186, a0.extract ((ji5) : Int).toNat (t186 : Int).toNat, (⟨#[]⟩ : ByteArray)⟩ : S51)] : List (S51))) := ⟨_, rfl⟩
     replace H : (R2_tag.l0 k a0 y187) = some (r1, r2) := by ((rw [hy187]; with_reducible exact H))
     have Ny187 := Aside0.mk hy187
     clear hy187
     have H' := Aside0.mk H
     clear H
     go_enter Tryz.func95, Tryz.ntmps95
     go_wp2_with (first | ((with_reducible refine gate_callee (f := 53) rfl ?_); refine goesL_ (some 15) rfl rfl Tryz.func53 (by kernel_rfl) rfl #[.string a0, .int .i64 ji5] rfl (zz1) ?_; (with_reducible refine (R1_NameEnd.calls k a0 ji5 t186 _ A3.out).mono ?_); rintro e w' ⟨rfl, ⟨nd, rfl⟩⟩; refine ⟨_, rfl, ?_⟩) | ((with_reducible refine gate_dst (N := 28) rfl ?_); refine Kd.R_lit k51 _ 51 ?hg (N := 28) ?hd (xs := ([(⟨1, a1, t186, a0.extract ((ji5) : Int).toNat (t186 : Int).toNat, (⟨#[]⟩ : ByteArray)⟩ : S51)] : List (S51))) (inner := [.int .i64 1, .int .i64 a1, .int .i64 t186, .string (a0.extract ((ji5) : Int).toNat (t186 : Int).toNat), .string (⟨#[]⟩ : ByteArray)]) (ok := fun _ => True) (okp := fun _ => True) ?hr ?hp (fun _ hk => hk) trivial (Below.refl _ _) (Nat.le_refl _) (by simp) ?_; (case hd => rfl); (case hg => rfl); (case hr => ((go_simp; done))); (case hp => exact (Reps.c5 (show Kd.M k51 _ _ _ (⟨1, a1, t186, a0.extract ((ji5) : Int).toNat (t186 : Int).toNat, (⟨#[]⟩ : ByteArray)⟩ : S51) [.int .i64 1, .int .i64 a1, .int .i64 t186, .string (a0.extract ((ji5) : Int).toNat (t186 : Int).toNat), .string (⟨#[]⟩ : ByteArray)] from (k51_mkM _ _ _ (⟨1, a1, t186, a0.extract ((ji5) : Int).toNat (t186 : Int).toNat, (⟨#[]⟩ : ByteArray)⟩ : S51) )) (Reps.none _ _))); intro v188 w9 ho10 hb hg_ hnew_; clear hg_ hnew_; (rw [← Ny187.out] at ho10); have n0_ := Aside0.mk (Kd.R_lower ho10 (below_size (zz3))); have n1_ := Aside0.mk (below_step (zz3) hb); clear HB; have HO189 := n0_; have HB := n1_; clear n0_ n1_; clear hb ho10))
     go_loopg [7] k (fun kq v7 w' => ∃ (x7_1 : List (S51)), Aside0 (R2_tag.l0 kq a0 x7_1 = some (r1, r2)) ∧ Aside0 (kq ≤ k) ∧ Aside0 (Kd.R k51 51 w' w.heap.size (fun _ => True) v7 x7_1) ∧ Aside0 (Below w.heap.size w w'))
     case atStart => exact ⟨(y187), H', ⟨Nat.le_refl _⟩, ⟨by (with_reducible repeat (first | apply Kd.R_alloc | apply Kd.R_drewN | apply Kd.R_drew)); exact HO189.out⟩, ⟨zz0⟩⟩
     case round =>
      clear H'
      clear c4
      clear c4b0
      clear c4b1
      clear c6b0
      clear c6b1
      clear c7b0
      clear c7b1
      clear c8b0
      clear c8b1
      obtain ⟨x7_1, HA, HK1, HO_7, HB⟩ := hrel
      cases gk with
      | zero => exact absurd HA.out (by simp [R2_tag.l0])
      | succ k1 =>
       have H := HA.out
       clear HA
       simp only [R2_tag.l0] at H
       obtain ⟨ji11, hji11⟩ : ∃ j_ : Int, (wrap64 ((x7_1.length : Int) - 1)) = j_ := ⟨_, rfl⟩
       replace H : (if 0 ≤ (ji11) then (if (ji11) < (x7_1.length : Int) then ((R1_Skip.f k1 a0 ((rd_T51 x7_1 (ji11)).f2)).bind fun t191 => ((R2_begins.f a0 t191 (⟨#[62]⟩ : ByteArray)).bind fun t192 => (if t192 = true then (if x7_1.length < 2513169434916 then (some ((x7_1 ++ [(⟨3, t191, wrap64 (t191 + 1), (⟨#[]⟩ : ByteArray), (⟨#[]⟩ : ByteArray)⟩ : S51)]), true)) else (none)) else ((R2_begins.f a0 t191 (⟨#[47, 62]⟩ : ByteArray)).bind fun t196 => (if t196 = true then (if x7_1.length < 2513169434916 then (some ((x7_1 ++ [(⟨4, t191, wrap64 (t191 + 2), (⟨#[]⟩ : ByteArray), (⟨#[]⟩ : ByteArray)⟩ : S51)]), true)) else (none)) else ((R2_attr.f k1 a0 ((rd_T51 x7_1 (ji11)).f2)).bind fun bt200 => (if bt200.2.2.2.2.2 = true then (if x7_1.length < 2513169434916 then (R2_tag.l0 k1 a0 (x7_1 ++ [(⟨bt200.1, bt200.2.1, bt200.2.2.1, bt200.2.2.2.1, bt200.2.2.2.2.1⟩ : S51)])) else (none)) else (some (([] : List (S51)), false))))))))) else (none)) else (none)) = some (r1, r2) := by ((rw [hji11] at H; exact H))
       have hji11w : (IntKind.i64.wrap ((x7_1.length : Int) - 1)) = ji11 := (i64_w _).trans hji11
       by_cases c12 : 0 ≤ (ji11)
       rw [if_pos c12] at H
       have c12b0 : decide (0 ≤ (ji11)) = true := decide_eq_true c12
       clear c12
       by_cases c13 : (ji11) < (x7_1.length : Int)
       rw [if_pos c13] at H
       have c13b0 : decide ((ji11) < (x7_1.length : Int)) = true := decide_eq_true c13
       clear c13
       replace H := Option.bind_eq_some_iff.mp H
       obtain ⟨t191, A140, H⟩ := H
       have A14 := Aside0.mk A140
       clear A140
       replace H := Option.bind_eq_some_iff.mp H
       obtain ⟨t192, A150, H⟩ := H
       have A15 := Aside0.mk A150
       clear A150
       by_cases c16 : t192 = true
       subst c16
       rw [if_pos rfl] at H
       by_cases c17 : x7_1.length < 2513169434916
       rw [if_pos c17] at H
       have LMc17 := Aside0.mk c17
       clear c17
       obtain ⟨y193, hy193⟩ : ∃ y_ : List (S51), y_ = (x7_1 ++ [(⟨3, t191, wrap64 (t191 + 1), (⟨#[]⟩ : ByteArray), (⟨#[]⟩ : ByteArray)⟩ : S51)]) := ⟨_, rfl⟩
       replace H : (some (y193, true)) = some (r1, r2) := by ((rw [hy193]; with_reducible exact H))
       have Ny193 := Aside0.mk hy193
       clear hy193
       rotate_left
       ·rw [if_neg c17] at H
        exact absurd H (by simp)
       replace c16 := Bool.eq_false_iff.mpr c16
       subst c16
       rw [if_neg (show ¬ (false = true) by decide)] at H
       replace H := Option.bind_eq_some_iff.mp H
       obtain ⟨t196, A200, H⟩ := H
       have A20 := Aside0.mk A200
       clear A200
       by_cases c21 : t196 = true
       subst c21
       rw [if_pos rfl] at H
       by_cases c22 : x7_1.length < 2513169434916
       rw [if_pos c22] at H
       have LMc22 := Aside0.mk c22
       clear c22
       obtain ⟨y197, hy197⟩ : ∃ y_ : List (S51), y_ = (x7_1 ++ [(⟨4, t191, wrap64 (t191 + 2), (⟨#[]⟩ : ByteArray), (⟨#[]⟩ : ByteArray)⟩ : S51)]) := ⟨_, rfl⟩
       replace H : (some (y197, true)) = some (r1, r2) := by ((rw [hy197]; with_reducible exact H))
       have Ny197 := Aside0.mk hy197
       clear hy197
       rotate_left
       ·rw [if_neg c22] at H
        exact absurd H (by simp)
       replace c21 := Bool.eq_false_iff.mpr c21
       subst c21
       rw [if_neg (show ¬ (false = true) by decide)] at H
       replace H := Option.bind_eq_some_iff.mp H
       obtain ⟨⟨t200, t201, t202, t203, t204, t205⟩, A250, H⟩ := H
       dsimp only at H
       have A25 := Aside0.mk A250
       clear A250
       by_cases c26 : t205 = true
       subst c26
       rw [if_pos rfl] at H
       by_cases c27 : x7_1.length < 2513169434916
       rw [if_pos c27] at H
       have LMc27 := Aside0.mk c27
       clear c27
       obtain ⟨y207, hy207⟩ : ∃ y_ : List (S51), y_ = (x7_1 ++ [(⟨t200, t201, t202, t203, t204⟩ : S51)]) := ⟨_, rfl⟩
       replace H : (R2_tag.l0 k1 a0 y207) = some (r1, r2) := by ((rw [hy207]; with_reducible exact H))
       have Ny207 := Aside0.mk hy207
       clear hy207
       rotate_left
       ·rw [if_neg c27] at H
        exact absurd H (by simp)
       replace c26 := Bool.eq_false_iff.mpr c26
       subst c26
       rw [if_neg (show ¬ (false = true) by decide)] at H
       rotate_left
       ·rw [if_neg c13] at H
        exact absurd H (by simp)
       ·rw [if_neg c12] at H
        exact absurd H (by simp)
       all_goals first
       | (simp only [Option.some.injEq, Prod.mk.injEq] at H
          obtain ⟨rfl, rfl⟩ := H
          obtain ⟨Aoz1, coz1, eoz1⟩ := Kd.R_slice HO_7.out
          subst eoz1
          have pz1 : 0 ≤ ((ji11) : Int) := of_decide_eq_true (zz5)
          have qz1 : (ji11) < (x7_1.length : Int) := of_decide_eq_true (zz5)
          obtain ⟨adz1, ez1, hxz1, hxz2, hxz3, hxz4, hxz5⟩ := at_T51 (Kd.R_reads' HO_7.out).2.2 (ji11) pz1 qz1
          cases ez1
          replace pz1 := eq_true pz1
          replace qz1 := eq_true qz1
          go_wp2_with (first | ((with_reducible refine gate_callee (f := 67) rfl ?_); refine goesL_ (some 38) rfl rfl Tryz.func67 (by kernel_rfl) rfl #[.string a0, .int .i64 ((rd_T51 x7_1 (ji11)).f2)] rfl (zz1) ?_; (with_reducible refine (R1_Skip.calls k1 a0 ((rd_T51 x7_1 (ji11)).f2) t191 _ A14.out).mono ?_); rintro e w' ⟨rfl, ⟨nd, rfl⟩⟩; refine ⟨_, rfl, ?_⟩; (((rw [drewN_self wr]; generalize hq_ : World.drewN wr _ = wr; have n0_ : Aside0 (Kd.R k51 51 wr w.heap.size (fun _ => True) (.slice (some adz1) x7_1.length coz1) x7_1) := ⟨zz47⟩; have n1_ : Aside0 (Below w.heap.size w wr) := ⟨zz45⟩; clear HO_7 HB hq_; have HO_7 := n0_; have HB := n1_; clear n0_ n1_)))) | ((with_reducible refine gate_callee (f := 93) rfl ?_); refine goesL_ (some 41) rfl rfl Tryz.func93 (by kernel_rfl) rfl #[.string a0, .int .i64 t191, .string (⟨#[62]⟩ : ByteArray)] rfl (zz1) ?_; (with_reducible refine (R2_begins.calls a0 t191 (⟨#[62]⟩ : ByteArray) false _ A15.out).mono ?_); rintro e w' ⟨rfl, ⟨nd, rfl⟩⟩; refine ⟨_, rfl, ?_⟩; (((rw [drewN_self wr]; generalize hq_ : World.drewN wr _ = wr; have n0_ : Aside0 (Kd.R k51 51 wr w.heap.size (fun _ => True) (.slice (some adz1) x7_1.length coz1) x7_1) := ⟨zz47⟩; have n1_ : Aside0 (Below w.heap.size w wr) := ⟨zz45⟩; clear HO_7 HB hq_; have HO_7 := n0_; have HB := n1_; clear n0_ n1_)))) | ((with_reducible refine gate_callee (f := 93) rfl ?_); refine goesL_ (some 41) rfl rfl Tryz.func93 (by kernel_rfl) rfl #[.string a0, .int .i64 t191, .string (⟨#[62]⟩ : ByteArray)] rfl (zz1) ?_; (with_reducible refine (R2_begins.calls a0 t191 (⟨#[62]⟩ : ByteArray) true _ A15.out).mono ?_); rintro e w' ⟨rfl, ⟨nd, rfl⟩⟩; refine ⟨_, rfl, ?_⟩) | ((with_reducible refine gate_builtin (b := .append) (xs := #[.tmp 42, .tmp 47]) rfl ?_); at_builtin; refine Kd.R_append k51 (w0 := w) w.heap.size rfl (.tmp 42) (.tmp 47) 43 51 (.agg #[(.int .i64 0), (.int .i64 0), (.int .i64 0), (.string ⟨#[]⟩), (.string ⟨#[]⟩)]) 56 rfl Tryz.underlying43 info51 rfl (by decide) (by omega) (.slice (some adz1) x7_1.length coz1) x7_1 (⟨3, t191, wrap64 (t191 + 1), (⟨#[]⟩ : ByteArray), (⟨#[]⟩ : ByteArray)⟩ : S51) [.int .i64 3, .int .i64 t191, .int .i64 (wrap64 (t191 + 1)), .string (⟨#[]⟩ : ByteArray), .string (⟨#[]⟩ : ByteArray)] (fun _ => True) (fun _ => False) rfl rfl ?aP (fun _ hk => hk.elim) ?aF ?aO ?aB ?aS ?aL ?_; (case aP => exact k51_mkM _ _ _ (⟨3, t191, wrap64 (t191 + 1), (⟨#[]⟩ : ByteArray), (⟨#[]⟩ : ByteArray)⟩ : S51)); (case aB => exact (zz3)); (case aF => exact (fun _ _ => trivial)); (case aO => exact (by (with_reducible repeat (apply Kd.R_drewN)); exact HO_7.out)); (case aS => exact (below_size (zz3))); (case aL => have := LMc17.out; omega); intro vz1 w19 ho hb hg hat; rw [← Ny193.out] at ho; have n0_ := Aside0.mk (hb); have n1_ := Aside0.mk (ho); clear HB; clear HO_7; have HB := n0_; have HOz1 := n1_; clear n0_ n1_; clear ho hb hg hat) | ((with_reducible refine gate_callee (f := 93) rfl ?_); refine goesL_ (some 51) rfl rfl Tryz.func93 (by kernel_rfl) rfl #[.string a0, .int .i64 t191, .string (⟨#[47, 62]⟩ : ByteArray)] rfl (zz1) ?_; (with_reducible refine (R2_begins.calls a0 t191 (⟨#[47, 62]⟩ : ByteArray) false _ A20.out).mono ?_); rintro e w' ⟨rfl, ⟨nd, rfl⟩⟩; refine ⟨_, rfl, ?_⟩; (((rw [drewN_self wr]; generalize hq_ : World.drewN wr _ = wr; have n0_ : Aside0 (Kd.R k51 51 wr w.heap.size (fun _ => True) (.slice (some adz1) x7_1.length coz1) x7_1) := ⟨zz47⟩; have n1_ : Aside0 (Below w.heap.size w wr) := ⟨zz45⟩; clear HO_7 HB hq_; have HO_7 := n0_; have HB := n1_; clear n0_ n1_)))) | ((with_reducible refine gate_callee (f := 93) rfl ?_); refine goesL_ (some 51) rfl rfl Tryz.func93 (by kernel_rfl) rfl #[.string a0, .int .i64 t191, .string (⟨#[47, 62]⟩ : ByteArray)] rfl (zz1) ?_; (with_reducible refine (R2_begins.calls a0 t191 (⟨#[47, 62]⟩ : ByteArray) true _ A20.out).mono ?_); rintro e w' ⟨rfl, ⟨nd, rfl⟩⟩; refine ⟨_, rfl, ?_⟩) | ((with_reducible refine gate_builtin (b := .append) (xs := #[.tmp 52, .tmp 57]) rfl ?_); at_builtin; refine Kd.R_append k51 (w0 := w) w.heap.size rfl (.tmp 52) (.tmp 57) 43 51 (.agg #[(.int .i64 0), (.int .i64 0), (.int .i64 0), (.string ⟨#[]⟩), (.string ⟨#[]⟩)]) 56 rfl Tryz.underlying43 info51 rfl (by decide) (by omega) (.slice (some adz1) x7_1.length coz1) x7_1 (⟨4, t191, wrap64 (t191 + 2), (⟨#[]⟩ : ByteArray), (⟨#[]⟩ : ByteArray)⟩ : S51) [.int .i64 4, .int .i64 t191, .int .i64 (wrap64 (t191 + 2)), .string (⟨#[]⟩ : ByteArray), .string (⟨#[]⟩ : ByteArray)] (fun _ => True) (fun _ => False) rfl rfl ?aP (fun _ hk => hk.elim) ?aF ?aO ?aB ?aS ?aL ?_; (case aP => exact k51_mkM _ _ _ (⟨4, t191, wrap64 (t191 + 2), (⟨#[]⟩ : ByteArray), (⟨#[]⟩ : ByteArray)⟩ : S51)); (case aB => exact (zz3)); (case aF => exact (fun _ _ => trivial)); (case aO => exact (by (with_reducible repeat (apply Kd.R_drewN)); exact HO_7.out)); (case aS => exact (below_size (zz3))); (case aL => have := LMc22.out; omega); intro vz1 wz1 ho hb hg hat; rw [← Ny197.out] at ho; have n0_ := Aside0.mk (hb); have n1_ := Aside0.mk (ho); clear HB; clear HO_7; have HB := n0_; have HOz1 := n1_; clear n0_ n1_; clear ho hb hg hat) | ((with_reducible refine gate_callee (f := 117) rfl ?_); refine goesL_ (some 62) rfl rfl Tryz.func117 (by kernel_rfl) rfl #[.string a0, .int .i64 ((rd_T51 x7_1 (ji11)).f2)] rfl (zz1) ?_; (with_reducible refine (R2_attr.calls k1 a0 ((rd_T51 x7_1 (ji11)).f2) t200 t201 t202 t203 t204 false _ A25.out).mono ?_); rintro e wz1 ⟨rfl, hb⟩; refine ⟨_, rfl, ?_⟩; have n0_ := Aside0.mk (Kd.R_below (zz63) hb); have n1_ := Aside0.mk (below_step (zz0) hb); clear HO_7; clear HB; have HO_7 := n0_; have HB := n1_; clear n0_ n1_; (clear hb)) | ((with_reducible refine gate_dst (N := 10) rfl ?_); refine box_event ?hg (N := 10) ?hd (cs := #[.int .i64 0, .int .i64 0, .int .i64 0, .string (⟨#[]⟩ : ByteArray), .string (⟨#[]⟩ : ByteArray)]) (t := 51) ?hr ?_; (case hd => rfl); (case hg => rfl); (case hr => ((go_simp; done))); intro gbz1 hg wz2 hbox hb; have n0_ := Aside0.mk (Kd.R_below (Kd.R_elderB (zz63) gbz1 (Nat.le_of_eq hg.symm)) hb); have n1_ := Aside0.mk (below_step (zz0) hb); have n2_ := Aside0.mk (hbox); have n3_ := Aside0.mk ((zz18 : w.heap.size ≤ gbz1)); have n4_ := Aside0.mk ((zz18 : w.heap.size ≤ gbz1)); clear HO_7; clear HB; have HO_7 := n0_; have HB := n1_; have BKz1 := n2_; have GWz1 := n3_; have GEz1 := n4_; clear n0_ n1_ n2_ n3_ n4_; clear hb hbox hg; have hczz1 : wz2.cell? ⟨gbz1, 0, none⟩ = some (.int .i64 0) := (blk_cell BKz1.out 0).trans rfl; have hczz2 : wz2.cell? ⟨gbz1, 1, none⟩ = some (.int .i64 0) := (blk_cell BKz1.out 1).trans rfl; have hczz3 : wz2.cell? ⟨gbz1, 2, none⟩ = some (.int .i64 0) := (blk_cell BKz1.out 2).trans rfl; have hczz4 : wz2.cell? ⟨gbz1, 3, none⟩ = some (.string (⟨#[]⟩ : ByteArray)) := (blk_cell BKz1.out 3).trans rfl; have hczz5 : wz2.cell? ⟨gbz1, 4, none⟩ = some (.string (⟨#[]⟩ : ByteArray)) := (blk_cell BKz1.out 4).trans rfl; have hfzz1 := blk_frozen BKz1.out 0; have hfzz2 := blk_frozen BKz1.out 1; have hfzz3 := blk_frozen BKz1.out 2; have hfzz4 := blk_frozen BKz1.out 3; have hfzz5 := blk_frozen BKz1.out 4))
          go_ret2
          first | (exact ⟨_, by rfl, by (with_reducible repeat (first | apply Kd.R_alloc | apply Kd.R_drewN | apply Kd.R_drew)); exact HOz1.out, zz0⟩) | (exact ⟨_, by rfl, zz33, by repeat (((with_reducible first | exact HB.out | refine below_set ?_ GEz1.out)))⟩))
       | (have H' := Aside0.mk H
          clear H
          obtain ⟨Aoz1, coz1, eoz1⟩ := Kd.R_slice HO_7.out
          subst eoz1
          have pz1 : 0 ≤ ((ji11) : Int) := of_decide_eq_true (zz5)
          have qz1 : (ji11) < (x7_1.length : Int) := of_decide_eq_true (zz5)
          obtain ⟨adz1, ez1, hxz1, hxz2, hxz3, hxz4, hxz5⟩ := at_T51 (Kd.R_reads' HO_7.out).2.2 (ji11) pz1 qz1
          cases ez1
          replace pz1 := eq_true pz1
          replace qz1 := eq_true qz1
          go_wp2_with (first | ((with_reducible refine gate_callee (f := 67) rfl ?_); refine goesL_ (some 38) rfl rfl Tryz.func67 (by kernel_rfl) rfl #[.string a0, .int .i64 ((rd_T51 x7_1 (ji11)).f2)] rfl (zz1) ?_; (with_reducible refine (R1_Skip.calls k1 a0 ((rd_T51 x7_1 (ji11)).f2) t191 _ A14.out).mono ?_); rintro e w' ⟨rfl, ⟨nd, rfl⟩⟩; refine ⟨_, rfl, ?_⟩; (((rw [drewN_self wr]; generalize hq_ : World.drewN wr _ = wr; have n0_ : Aside0 (Kd.R k51 51 wr w.heap.size (fun _ => True) (.slice (some adz1) x7_1.length coz1) x7_1) := ⟨zz47⟩; have n1_ : Aside0 (Below w.heap.size w wr) := ⟨zz45⟩; clear HO_7 HB hq_; have HO_7 := n0_; have HB := n1_; clear n0_ n1_)))) | ((with_reducible refine gate_callee (f := 93) rfl ?_); refine goesL_ (some 41) rfl rfl Tryz.func93 (by kernel_rfl) rfl #[.string a0, .int .i64 t191, .string (⟨#[62]⟩ : ByteArray)] rfl (zz1) ?_; (with_reducible refine (R2_begins.calls a0 t191 (⟨#[62]⟩ : ByteArray) false _ A15.out).mono ?_); rintro e w' ⟨rfl, ⟨nd, rfl⟩⟩; refine ⟨_, rfl, ?_⟩; (((rw [drewN_self wr]; generalize hq_ : World.drewN wr _ = wr; have n0_ : Aside0 (Kd.R k51 51 wr w.heap.size (fun _ => True) (.slice (some adz1) x7_1.length coz1) x7_1) := ⟨zz47⟩; have n1_ : Aside0 (Below w.heap.size w wr) := ⟨zz45⟩; clear HO_7 HB hq_; have HO_7 := n0_; have HB := n1_; clear n0_ n1_)))) | ((with_reducible refine gate_callee (f := 93) rfl ?_); refine goesL_ (some 51) rfl rfl Tryz.func93 (by kernel_rfl) rfl #[.string a0, .int .i64 t191, .string (⟨#[47, 62]⟩ : ByteArray)] rfl (zz1) ?_; (with_reducible refine (R2_begins.calls a0 t191 (⟨#[47, 62]⟩ : ByteArray) false _ A20.out).mono ?_); rintro e w' ⟨rfl, ⟨nd, rfl⟩⟩; refine ⟨_, rfl, ?_⟩; (((rw [drewN_self wr]; generalize hq_ : World.drewN wr _ = wr; have n0_ : Aside0 (Kd.R k51 51 wr w.heap.size (fun _ => True) (.slice (some adz1) x7_1.length coz1) x7_1) := ⟨zz47⟩; have n1_ : Aside0 (Below w.heap.size w wr) := ⟨zz45⟩; clear HO_7 HB hq_; have HO_7 := n0_; have HB := n1_; clear n0_ n1_)))) | ((with_reducible refine gate_callee (f := 117) rfl ?_); refine goesL_ (some 62) rfl rfl Tryz.func117 (by kernel_rfl) rfl #[.string a0, .int .i64 ((rd_T51 x7_1 (ji11)).f2)] rfl (zz1) ?_; (with_reducible refine (R2_attr.calls k1 a0 ((rd_T51 x7_1 (ji11)).f2) t200 t201 t202 t203 t204 true _ A25.out).mono ?_); rintro e wz1 ⟨rfl, hb⟩; refine ⟨_, rfl, ?_⟩; have n0_ := Aside0.mk (Kd.R_below (zz63) hb); have n1_ := Aside0.mk (below_step (zz0) hb); clear HO_7; clear HB; have HO_7 := n0_; have HB := n1_; clear n0_ n1_; (clear hb)) | ((with_reducible refine gate_dst (N := 10) rfl ?_); refine box_event ?hg (N := 10) ?hd (cs := #[.int .i64 0, .int .i64 0, .int .i64 0, .string (⟨#[]⟩ : ByteArray), .string (⟨#[]⟩ : ByteArray)]) (t := 51) ?hr ?_; (case hd => rfl); (case hg => rfl); (case hr => ((go_simp; done))); intro gbz1 hg wz2 hbox hb; have n0_ := Aside0.mk (Kd.R_below (Kd.R_elderB (zz63) gbz1 (Nat.le_of_eq hg.symm)) hb); have n1_ := Aside0.mk (below_step (zz0) hb); have n2_ := Aside0.mk (hbox); have n3_ := Aside0.mk ((zz18 : w.heap.size ≤ gbz1)); have n4_ := Aside0.mk ((zz18 : w.heap.size ≤ gbz1)); clear HO_7; clear HB; have HO_7 := n0_; have HB := n1_; have BKz1 := n2_; have GWz1 := n3_; have GEz1 := n4_; clear n0_ n1_ n2_ n3_ n4_; clear hb hbox hg; have hczz1 : wz2.cell? ⟨gbz1, 0, none⟩ = some (.int .i64 0) := (blk_cell BKz1.out 0).trans rfl; have hczz2 : wz2.cell? ⟨gbz1, 1, none⟩ = some (.int .i64 0) := (blk_cell BKz1.out 1).trans rfl; have hczz3 : wz2.cell? ⟨gbz1, 2, none⟩ = some (.int .i64 0) := (blk_cell BKz1.out 2).trans rfl; have hczz4 : wz2.cell? ⟨gbz1, 3, none⟩ = some (.string (⟨#[]⟩ : ByteArray)) := (blk_cell BKz1.out 3).trans rfl; have hczz5 : wz2.cell? ⟨gbz1, 4, none⟩ = some (.string (⟨#[]⟩ : ByteArray)) := (blk_cell BKz1.out 4).trans rfl; have hfzz1 := blk_frozen BKz1.out 0; have hfzz2 := blk_frozen BKz1.out 1; have hfzz3 := blk_frozen BKz1.out 2; have hfzz4 := blk_frozen BKz1.out 3; have hfzz5 := blk_frozen BKz1.out 4) | ((with_reducible refine gate_builtin (b := .append) (xs := #[.tmp 67, .tmp 69]) rfl ?_); at_builtin; refine Kd.R_append k51 (w0 := w) w.heap.size rfl (.tmp 67) (.tmp 69) 43 51 (.agg #[(.int .i64 0), (.int .i64 0), (.int .i64 0), (.string ⟨#[]⟩), (.string ⟨#[]⟩)]) 56 rfl Tryz.underlying43 info51 rfl (by decide) (by omega) (.slice (some adz1) x7_1.length coz1) x7_1 (⟨t200, t201, t202, t203, t204⟩ : S51) [.int .i64 t200, .int .i64 t201, .int .i64 t202, .string t203, .string t204] (fun k_ => k_ ≠ gbz1) (fun _ => False) rfl (by ((go_simp; done))) ?aP (fun _ hk => hk.elim) ?aF ?aO ?aB ?aS ?aL ?_; (case aP => exact k51_mkM _ _ _ (⟨t200, t201, t202, t203, t204⟩ : S51)); (case aB => exact (by repeat (((with_reducible first | exact HB.out | refine below_set ?_ GEz1.out))))); (case aF => exact (fun k_ hk => Kd.freshB (g := gbz1) (o := .cells #[.int .i64 t200, .int .i64 t201, .int .i64 t202, .string t203, .string t204] 51 (0, 0)) (by (with_reducible repeat (first | refine blk_drewN ?_ _ | refine blk_drew ?_ | refine blk_alloc ?_ _)); refine blk_put (cs := #[.int .i64 t200, .int .i64 t201, .int .i64 t202, .string t203, .string (⟨#[]⟩ : ByteArray)]) ?_ 4 _ rfl; (with_reducible repeat (first | refine blk_drewN ?_ _ | refine blk_drew ?_ | refine blk_alloc ?_ _)); refine blk_put (cs := #[.int .i64 t200, .int .i64 t201, .int .i64 t202, .string (⟨#[]⟩ : ByteArray), .string (⟨#[]⟩ : ByteArray)]) ?_ 3 _ rfl; (with_reducible repeat (first | refine blk_drewN ?_ _ | refine blk_drew ?_ | refine blk_alloc ?_ _)); refine blk_put (cs := #[.int .i64 t200, .int .i64 t201, .int .i64 0, .string (⟨#[]⟩ : ByteArray), .string (⟨#[]⟩ : ByteArray)]) ?_ 2 _ rfl; (with_reducible repeat (first | refine blk_drewN ?_ _ | refine blk_drew ?_ | refine blk_alloc ?_ _)); refine blk_put (cs := #[.int .i64 t200, .int .i64 0, .int .i64 0, .string (⟨#[]⟩ : ByteArray), .string (⟨#[]⟩ : ByteArray)]) ?_ 1 _ rfl; (with_reducible repeat (first | refine blk_drewN ?_ _ | refine blk_drew ?_ | refine blk_alloc ?_ _)); refine blk_put (cs := #[.int .i64 0, .int .i64 0, .int .i64 0, .string (⟨#[]⟩ : ByteArray), .string (⟨#[]⟩ : ByteArray)]) ?_ 0 _ rfl; (with_reducible repeat (first | refine blk_drewN ?_ _ | refine blk_drew ?_ | refine blk_alloc ?_ _)); exact BKz1.out) k_ hk)); (case aO => exact (by (with_reducible repeat (first | apply Kd.R_alloc | apply Kd.R_drewN | apply Kd.R_drew)); exact Kd.R_mono (Kd.R_far (p := ⟨gbz1, 4, none⟩) (Kd.R_far (p := ⟨gbz1, 3, none⟩) (Kd.R_far (p := ⟨gbz1, 2, none⟩) (Kd.R_far (p := ⟨gbz1, 1, none⟩) (Kd.R_far (p := ⟨gbz1, 0, none⟩) (Kd.R_mono HO_7.out (fun k_ hk => (⟨hk, hk.2⟩ : _ ∧ k_ ≠ gbz1))) (fun _ hk => hk.2) (.int .i64 t200)) (fun _ hk => hk.2) (.int .i64 t201)) (fun _ hk => hk.2) (.int .i64 t202)) (fun _ hk => hk.2) (.string t203)) (fun _ hk => hk.2) (.string t204)) (fun _ hk => hk.1.2))); (case aS => exact (below_size (by repeat (((with_reducible first | exact HB.out | refine below_set ?_ GEz1.out)))))); (case aL => have := LMc27.out; omega); intro vz1 wz3 ho hb hg hat; rw [← Ny207.out] at ho; have n0_ := Aside0.mk (blk_grown (g := gbz1) (o := .cells #[.int .i64 t200, .int .i64 t201, .int .i64 t202, .string t203, .string t204] 51 (0, 0)) (by (with_reducible repeat (first | refine blk_drewN ?_ _ | refine blk_drew ?_ | refine blk_alloc ?_ _)); refine blk_put (cs := #[.int .i64 t200, .int .i64 t201, .int .i64 t202, .string t203, .string (⟨#[]⟩ : ByteArray)]) ?_ 4 _ rfl; (with_reducible repeat (first | refine blk_drewN ?_ _ | refine blk_drew ?_ | refine blk_alloc ?_ _)); refine blk_put (cs := #[.int .i64 t200, .int .i64 t201, .int .i64 t202, .string (⟨#[]⟩ : ByteArray), .string (⟨#[]⟩ : ByteArray)]) ?_ 3 _ rfl; (with_reducible repeat (first | refine blk_drewN ?_ _ | refine blk_drew ?_ | refine blk_alloc ?_ _)); refine blk_put (cs := #[.int .i64 t200, .int .i64 t201, .int .i64 0, .string (⟨#[]⟩ : ByteArray), .string (⟨#[]⟩ : ByteArray)]) ?_ 2 _ rfl; (with_reducible repeat (first | refine blk_drewN ?_ _ | refine blk_drew ?_ | refine blk_alloc ?_ _)); refine blk_put (cs := #[.int .i64 t200, .int .i64 0, .int .i64 0, .string (⟨#[]⟩ : ByteArray), .string (⟨#[]⟩ : ByteArray)]) ?_ 1 _ rfl; (with_reducible repeat (first | refine blk_drewN ?_ _ | refine blk_drew ?_ | refine blk_alloc ?_ _)); refine blk_put (cs := #[.int .i64 0, .int .i64 0, .int .i64 0, .string (⟨#[]⟩ : ByteArray), .string (⟨#[]⟩ : ByteArray)]) ?_ 0 _ rfl; (with_reducible repeat (first | refine blk_drewN ?_ _ | refine blk_drew ?_ | refine blk_alloc ?_ _)); exact BKz1.out) hg (Kd.R_away HO_7.out (fun _ hk => hk.2))); have n1_ := Aside0.mk (hb); have n2_ := Aside0.mk (ho); clear BKz1; clear HB; clear HO_7; have BKz1 := n0_; have HB := n1_; have HOz1 := n2_; clear n0_ n1_ n2_; clear ho hb hg hat))
          go_roundg k1
          case measure => have := HK1.out; omega
          case rel => exact ⟨(y207), H', ⟨zz49⟩, ⟨by (with_reducible repeat (first | apply Kd.R_alloc | apply Kd.R_drewN | apply Kd.R_drew)); exact Kd.R_mono HOz1.out (fun _ hk => trivial)⟩, ⟨zz0⟩⟩)
    ·rw [if_neg c8] at H
     exact absurd H (by simp)
   ·rw [if_neg c7] at H
    exact absurd H (by simp)
  ·rw [if_neg c6] at H
   exact absurd H (by simp)
def R2_piece.f (k : Nat) (a0 : ByteArray) (a1 : Int) : Option ((List (S51)) × Bool) := (R2_begins.f a0 a1 (⟨#[60, 33, 45, 45]⟩ : ByteArray)).bind fun t210 => (if t210 = true then ((R2_find.f k a0 (wrap64 (a1 + 4)) (⟨#[45, 45]⟩ : ByteArray)).bind fun t211 => (if t211 < 0 then (some (([] : List (S51)), false)) else ((R2_begins.f a0 t211 (⟨#[45, 45, 62]⟩ : ByteArray)).bind fun t212 => (if t212 = true then (if 0 ≤ (wrap64 (a1 + 4)) then (if (wrap64 (a1 + 4)) ≤ t211 then (if t211 ≤ (a0.size : Int) then (some ((([(⟨7, a1, wrap64 (t211 + 3), (⟨#[]⟩ : ByteArray), a0.extract ((wrap64 (a1 + 4)) : Int).toNat (t211 : Int).toNat⟩ : S51)] : List (S51))), true)) else (none)) else (none)) else (none)) else (some (([] : List (S51)), false)))))) else ((R2_begins.f a0 a1 (⟨#[60, 33, 91, 67, 68, 65, 84, 65, 91]⟩ : ByteArray)).bind fun t216 => (if t216 = true then ((R2_find.f k a0 (wrap64 (a1 + 9)) (⟨#[93, 93, 62]⟩ : ByteArray)).bind fun t217 => (if t217 < 0 then (some (([] : List (S51)), false)) else (if 0 ≤ (wrap64 (a1 + 9)) then (if (wrap64 (a1 + 9)) ≤ t217 then (if t217 ≤ (a0.size : Int) then (some ((([(⟨6, a1, wrap64 (t217 + 3), (⟨#[]⟩ : ByteArray), a0.extract ((wrap64 (a1 + 9)) : Int).toNat (t217 : Int).toNat⟩ : S51)] : List (S51))), true)) else (none)) else (none)) else (none)))) else ((R2_begins.f a0 a1 (⟨#[60, 47]⟩ : ByteArray)).bind fun t221 => (if t221 = true then ((R1_NameEnd.f k a0 (wrap64 (a1 + 2))).bind fun t222 => ((R1_Skip.f k a0 t222).bind fun t223 => (if t222 = (wrap64 (a1 + 2)) then (some (([] : List (S51)), false)) else ((R2_begins.f a0 t223 (⟨#[62]⟩ : ByteArray)).bind fun t224 => (if t224 = true then (if 0 ≤ (wrap64 (a1 + 2)) then (if (wrap64 (a1 + 2)) ≤ t222 then (if t222 ≤ (a0.size : Int) then (some ((([(⟨5, a1, wrap64 (t223 + 1), a0.extract ((wrap64 (a1 + 2)) : Int).toNat (t222 : Int).toNat, (⟨#[]⟩ : ByteArray)⟩ : S51)] : List (S51))), true)) else (none)) else (none)) else (none)) else (some (([] : List (S51)), false))))))) else ((R2_begins.f a0 a1 (⟨#[60]⟩ : ByteArray)).bind fun t228 => (if t228 = true then ((R2_tag.f k a0 a1).bind fun bt229 => (some (bt229.1, bt229.2))) else ((R2_find.f k a0 a1 (⟨#[60]⟩ : ByteArray)).bind fun t233 => (if t233 < 0 then (if 0 ≤ a1 then (if a1 ≤ (a0.size : Int) then (if (a0.size : Int) ≤ (a0.size : Int) then ((R2_decoded.f k (a0.extract (a1 : Int).toNat ((a0.size : Int) : Int).toNat)).bind fun bt234 => (some ((([(⟨6, a1, (a0.size : Int), (⟨#[]⟩ : ByteArray), bt234.1⟩ : S51)] : List (S51))), bt234.2))) else (none)) else (none)) else (none)) else (if 0 ≤ a1 then (if a1 ≤ t233 then (if t233 ≤ (a0.size : Int) then ((R2_decoded.f k (a0.extract (a1 : Int).toNat (t233 : Int).toNat)).bind fun bt239 => (some ((([(⟨6, a1, t233, (⟨#[]⟩ : ByteArray), bt239.1⟩ : S51)] : List (S51))), bt239.2))) else (none)) else (none)) else (none)))))))))))
theorem R2_piece.mono : ∀ a0 a1 k, LeO (R2_piece.f k a0 a1) (R2_piece.f (k + 1) a0 a1) := by
 intro a0 a1 k
 unfold R2_piece.f
 have mo0 := @R1_NameEnd.mono; have mo1 := @R1_Skip.mono; have mo2 := @R2_decoded.mono; have mo3 := @R2_find.mono; have mo4 := @R2_tag.mono; exact leT
set_option maxHeartbeats 8000000 in
set_option maxRecDepth 100000 in
theorem R2_piece.calls (k : Nat) (a0 : ByteArray) (a1 : Int) (r1 : List (S51)) (r2 : Bool) (w : World) (h : R2_piece.f k a0 a1 = some (r1, r2)) :
 Calls Tryz.prog 66 #[.string a0, .int .i64 a1] w fun e w' => ∃ v0_ : Value, e = .returned (.tuple #[v0_, .bool r2]) ∧ Kd.R k51 51 w' w.heap.size (fun _ => True) v0_ r1 ∧ Below w.heap.size w w' := by
 have hu51 := Tryz.underlying51
 have HB := Aside0.mk (Below.refl w.heap.size w)
 have H : ((R2_begins.f a0 a1 (⟨#[60, 33, 45, 45]⟩ : ByteArray)).bind fun t210 => (if t210 = true then ((R2_find.f k a0 (wrap64 (a1 + 4)) (⟨#[45, 45]⟩ : ByteArray)).bind fun t211 => (if t211 < 0 then (some (([] : List (S51)), false)) else ((R2_begins.f a0 t211 (⟨#[45, 45, 62]⟩ : ByteArray)).bind fun t212 => (if t212 = true then (if 0 ≤ (wrap64 (a1 + 4)) then (if (wrap64 (a1 + 4)) ≤ t211 then (if t211 ≤ (a0.size : Int) then (some ((([(⟨7, a1, wrap64 (t211 + 3), (⟨#[]⟩ : ByteArray), a0.extract ((wrap64 (a1 + 4)) : Int).toNat (t211 : Int).toNat⟩ : S51)] : List (S51))), true)) else (none)) else (none)) else (none)) else (some (([] : List (S51)), false)))))) else ((R2_begins.f a0 a1 (⟨#[60, 33, 91, 67, 68, 65, 84, 65, 91]⟩ : ByteArray)).bind fun t216 => (if t216 = true then ((R2_find.f k a0 (wrap64 (a1 + 9)) (⟨#[93, 93, 62]⟩ : ByteArray)).bind fun t217 => (if t217 < 0 then (some (([] : List (S51)), false)) else (if 0 ≤ (wrap64 (a1 + 9)) then (if (wrap64 (a1 + 9)) ≤ t217 then (if t217 ≤ (a0.size : Int) then (some ((([(⟨6, a1, wrap64 (t217 + 3), (⟨#[]⟩ : ByteArray), a0.extract ((wrap64 (a1 + 9)) : Int).toNat (t217 : Int).toNat⟩ : S51)] : List (S51))), true)) else (none)) else (none)) else (none)))) else ((R2_begins.f a0 a1 (⟨#[60, 47]⟩ : ByteArray)).bind fun t221 => (if t221 = true then ((R1_NameEnd.f k a0 (wrap64 (a1 + 2))).bind fun t222 => ((R1_Skip.f k a0 t222).bind fun t223 => (if t222 = (wrap64 (a1 + 2)) then (some (([] : List (S51)), false)) else ((R2_begins.f a0 t223 (⟨#[62]⟩ : ByteArray)).bind fun t224 => (if t224 = true then (if 0 ≤ (wrap64 (a1 + 2)) then (if (wrap64 (a1 + 2)) ≤ t222 then (if t222 ≤ (a0.size : Int) then (some ((([(⟨5, a1, wrap64 (t223 + 1), a0.extract ((wrap64 (a1 + 2)) : Int).toNat (t222 : Int).toNat, (⟨#[]⟩ : ByteArray)⟩ : S51)] : List (S51))), true)) else (none)) else (none)) else (none)) else (some (([] : List (S51)), false))))))) else ((R2_begins.f a0 a1 (⟨#[60]⟩ : ByteArray)).bind fun t228 => (if t228 = true then ((R2_tag.f k a0 a1).bind fun bt229 => (some (bt229.1, bt229.2))) else ((R2_find.f k a0 a1 (⟨#[60]⟩ : ByteArray)).bind fun t233 => (if t233 < 0 then (if 0 ≤ a1 then (if a1 ≤ (a0.size : Int) then (if (a0.size : Int) ≤ (a0.size : Int) then ((R2_decoded.f k (a0.extract (a1 : Int).toNat ((a0.size : Int) : Int).toNat)).bind fun bt234 => (some ((([(⟨6, a1, (a0.size : Int), (⟨#[]⟩ : ByteArray), bt234.1⟩ : S51)] : List (S51))), bt234.2))) else (none)) else (none)) else (none)) else (if 0 ≤ a1 then (if a1 ≤ t233 then (if t233 ≤ (a0.size : Int) then ((R2_decoded.f k (a0.extract (a1 : Int).toNat (t233 : Int).toNat)).bind fun bt239 => (some ((([(⟨6, a1, t233, (⟨#[]⟩ : ByteArray), bt239.1⟩ : S51)] : List (S51))), bt239.2))) else (none)) else (none)) else (none)))))))))))) = some (r1, r2) := h
 clear h
 replace H := Option.bind_eq_some_iff.mp H
 obtain ⟨t210, A30, H⟩ := H
 have A3 := Aside0.mk A30
 clear A30
 by_cases c4 : t210 = true
 subst c4
 rw [if_pos rfl] at H
 replace H := Option.bind_eq_some_iff.mp H
 obtain ⟨t211, A50, H⟩ := H
 have A5 := Aside0.mk A50
 clear A50
 revert H; refine X.ite_d (fun c6b0 H => ?_) (fun c6b0 H => ?_)
 rotate_left
 replace H := Option.bind_eq_some_iff.mp H
 obtain ⟨t212, A70, H⟩ := H
 have A7 := Aside0.mk A70
 clear A70
 by_cases c8 : t212 = true
 subst c8
 rw [if_pos rfl] at H
 obtain ⟨ji9, hji9⟩ : ∃ j_ : Int, (wrap64 (a1 + 4)) = j_ := ⟨_, rfl⟩
 replace H : (if 0 ≤ (ji9) then (if (ji9) ≤ t211 then (if t211 ≤ (a0.size : Int) then (some ((([(⟨7, a1, wrap64 (t211 + 3), (⟨#[]⟩ : ByteArray), a0.extract ((ji9) : Int).toNat (t211 : Int).toNat⟩ : S51)] : List (S51))), true)) else (none)) else (none)) else (none)) = some (r1, r2) := by ((rw [hji9] at H; exact H))
 (rw [hji9] at A5)
 have hji9w : (IntKind.i64.wrap (a1 + 4)) = ji9 := (i64_w _).trans hji9
 by_cases c10 : 0 ≤ (ji9)
 rw [if_pos c10] at H
 have c10b0 := eq_true c10
 have c10b1 : decide (0 ≤ (ji9)) = true := decide_eq_true c10
 clear c10
 by_cases c11 : (ji9) ≤ t211
 rw [if_pos c11] at H
 have c11b0 := eq_true c11
 have c11b1 : decide ((ji9) ≤ t211) = true := decide_eq_true c11
 clear c11
 by_cases c12 : t211 ≤ (a0.size : Int)
 rw [if_pos c12] at H
 have c12b0 := eq_true c12
 have c12b1 : decide (t211 ≤ (a0.size : Int)) = true := decide_eq_true c12
 clear c12
 obtain ⟨y213, hy213⟩ : ∃ y_ : List (S51), y_ = (([(⟨7, a1, wrap64 (t211 + 3), (⟨#[]⟩ : ByteArray), a0.extract ((ji9) : Int).toNat (t211 : Int).toNat⟩ : S51)] : List (S51))) := ⟨_, rfl⟩
 replace H : (some (y213, true)) = some (r1, r2) := by ((rw [hy213]; with_reducible exact H))
 have Ny213 := Aside0.mk hy213
 clear hy213
 rotate_left
 ·rw [if_neg c12] at H
  exact absurd H (by simp)
 ·rw [if_neg c11] at H
  exact absurd H (by simp)
 ·rw [if_neg c10] at H
  exact absurd H (by simp)
 replace c8 := Bool.eq_false_iff.mpr c8
 subst c8
 rw [if_neg (show ¬ (false = true) by decide)] at H
 rotate_left
 replace c4 := Bool.eq_false_iff.mpr c4
 subst c4
 rw [if_neg (show ¬ (false = true) by decide)] at H
 replace H := Option.bind_eq_some_iff.mp H
 obtain ⟨t216, A150, H⟩ := H
 have A15 := Aside0.mk A150
 clear A150
 by_cases c16 : t216 = true
 subst c16
 rw [if_pos rfl] at H
 replace H := Option.bind_eq_some_iff.mp H
 obtain ⟨t217, A170, H⟩ := H
 have A17 := Aside0.mk A170
 clear A170
 revert H; refine X.ite_d (fun c18b0 H => ?_) (fun c18b0 H => ?_)
 rotate_left
 obtain ⟨ji19, hji19⟩ : ∃ j_ : Int, (wrap64 (a1 + 9)) = j_ := ⟨_, rfl⟩
 replace H : (if 0 ≤ (ji19) then (if (ji19) ≤ t217 then (if t217 ≤ (a0.size : Int) then (some ((([(⟨6, a1, wrap64 (t217 + 3), (⟨#[]⟩ : ByteArray), a0.extract ((ji19) : Int).toNat (t217 : Int).toNat⟩ : S51)] : List (S51))), true)) else (none)) else (none)) else (none)) = some (r1, r2) := by ((rw [hji19] at H; exact H))
 (rw [hji19] at A17)
 have hji19w : (IntKind.i64.wrap (a1 + 9)) = ji19 := (i64_w _).trans hji19
 by_cases c20 : 0 ≤ (ji19)
 rw [if_pos c20] at H
 have c20b0 := eq_true c20
 have c20b1 : decide (0 ≤ (ji19)) = true := decide_eq_true c20
 clear c20
 by_cases c21 : (ji19) ≤ t217
 rw [if_pos c21] at H
 have c21b0 := eq_true c21
 have c21b1 : decide ((ji19) ≤ t217) = true := decide_eq_true c21
 clear c21
 by_cases c22 : t217 ≤ (a0.size : Int)
 rw [if_pos c22] at H
 have c22b0 := eq_true c22
 have c22b1 : decide (t217 ≤ (a0.size : Int)) = true := decide_eq_true c22
 clear c22
 obtain ⟨y218, hy218⟩ : ∃ y_ : List (S51), y_ = (([(⟨6, a1, wrap64 (t217 + 3), (⟨#[]⟩ : ByteArray), a0.extract ((ji19) : Int).toNat (t217 : Int).toNat⟩ : S51)] : List (S51))) := ⟨_, rfl⟩
 replace H : (some (y218, true)) = some (r1, r2) := by ((rw [hy218]; with_reducible exact H))
 have Ny218 := Aside0.mk hy218
 clear hy218
 rotate_left
 ·rw [if_neg c22] at H
  exact absurd H (by simp)
 ·rw [if_neg c21] at H
  exact absurd H (by simp)
 ·rw [if_neg c20] at H
  exact absurd H (by simp)
 replace c16 := Bool.eq_false_iff.mpr c16
 subst c16
 rw [if_neg (show ¬ (false = true) by decide)] at H
 replace H := Option.bind_eq_some_iff.mp H
 obtain ⟨t221, A250, H⟩ := H
 have A25 := Aside0.mk A250
 clear A250
 by_cases c26 : t221 = true
 subst c26
 rw [if_pos rfl] at H
 replace H := Option.bind_eq_some_iff.mp H
 obtain ⟨t222, A270, H⟩ := H
 have A27 := Aside0.mk A270
 clear A270
 replace H := Option.bind_eq_some_iff.mp H
 obtain ⟨t223, A280, H⟩ := H
 have A28 := Aside0.mk A280
 clear A280
 revert H; refine X.ite_b (fun c29b0 c29b1 H => ?_) (fun c29b0 c29b1 H => ?_)
 rotate_left
 replace H := Option.bind_eq_some_iff.mp H
 obtain ⟨t224, A300, H⟩ := H
 have A30 := Aside0.mk A300
 clear A300
 by_cases c31 : t224 = true
 subst c31
 rw [if_pos rfl] at H
 obtain ⟨ji32, hji32⟩ : ∃ j_ : Int, (wrap64 (a1 + 2)) = j_ := ⟨_, rfl⟩
 replace H : (if 0 ≤ (ji32) then (if (ji32) ≤ t222 then (if t222 ≤ (a0.size : Int) then (some ((([(⟨5, a1, wrap64 (t223 + 1), a0.extract ((ji32) : Int).toNat (t222 : Int).toNat, (⟨#[]⟩ : ByteArray)⟩ : S51)] : List (S51))), true)) else (none)) else (none)) else (none)) = some (r1, r2) := by ((rw [hji32] at H; exact H))
 (rw [hji32] at c29b0)
 (rw [hji32] at c29b1)
 (rw [hji32] at A27)
 have hji32w : (IntKind.i64.wrap (a1 + 2)) = ji32 := (i64_w _).trans hji32
 by_cases c33 : 0 ≤ (ji32)
 rw [if_pos c33] at H
 have c33b0 := eq_true c33
 have c33b1 : decide (0 ≤ (ji32)) = true := decide_eq_true c33
 clear c33
 by_cases c34 : (ji32) ≤ t222
 rw [if_pos c34] at H
 have c34b0 := eq_true c34
 have c34b1 : decide ((ji32) ≤ t222) = true := decide_eq_true c34
 clear c34
 by_cases c35 : t222 ≤ (a0.size : Int)
 rw [if_pos c35] at H
 have c35b0 := eq_true c35
 have c35b1 : decide (t222 ≤ (a0.size : Int)) = true := decide_eq_true c35
 clear c35
 obtain ⟨y225, hy225⟩ : ∃ y_ : List (S51), y_ = (([(⟨5, a1, wrap64 (t223 + 1), a0.extract ((ji32) : Int).toNat (t222 : Int).toNat, (⟨#[]⟩ : ByteArray)⟩ : S51)] : List (S51))) := ⟨_, rfl⟩
 replace H : (some (y225, true)) = some (r1, r2) := by ((rw [hy225]; with_reducible exact H))
 have Ny225 := Aside0.mk hy225
 clear hy225
 rotate_left
 ·rw [if_neg c35] at H
  exact absurd H (by simp)
 ·rw [if_neg c34] at H
  exact absurd H (by simp)
 ·rw [if_neg c33] at H
  exact absurd H (by simp)
 replace c31 := Bool.eq_false_iff.mpr c31
 subst c31
 rw [if_neg (show ¬ (false = true) by decide)] at H
 rotate_left
 replace c26 := Bool.eq_false_iff.mpr c26
 subst c26
 rw [if_neg (show ¬ (false = true) by decide)] at H
 replace H := Option.bind_eq_some_iff.mp H
 obtain ⟨t228, A380, H⟩ := H
 have A38 := Aside0.mk A380
 clear A380
 by_cases c39 : t228 = true
 subst c39
 rw [if_pos rfl] at H
 replace H := Option.bind_eq_some_iff.mp H
 obtain ⟨⟨t229, t230⟩, A400, H⟩ := H
 dsimp only at H
 have A40 := Aside0.mk A400
 clear A400
 rotate_left
 replace c39 := Bool.eq_false_iff.mpr c39
 subst c39
 rw [if_neg (show ¬ (false = true) by decide)] at H
 replace H := Option.bind_eq_some_iff.mp H
 obtain ⟨t233, A420, H⟩ := H
 have A42 := Aside0.mk A420
 clear A420
 revert H; refine X.ite_d (fun c43b0 H => ?_) (fun c43b0 H => ?_)
 by_cases c44 : 0 ≤ a1
 rw [if_pos c44] at H
 have c44b0 := eq_true c44
 have c44b1 : decide (0 ≤ a1) = true := decide_eq_true c44
 clear c44
 by_cases c45 : a1 ≤ (a0.size : Int)
 rw [if_pos c45] at H
 have c45b0 := eq_true c45
 have c45b1 : decide (a1 ≤ (a0.size : Int)) = true := decide_eq_true c45
 clear c45
 by_cases c46 : (a0.size : Int) ≤ (a0.size : Int)
 rw [if_pos c46] at H
 have c46b0 := eq_true c46
 have c46b1 : decide ((a0.size : Int) ≤ (a0.size : Int)) = true := decide_eq_true c46
 clear c46
 replace H := Option.bind_eq_some_iff.mp H
 obtain ⟨⟨t234, t235⟩, A470, H⟩ := H
 dsimp only at H
 have A47 := Aside0.mk A470
 clear A470
 obtain ⟨y236, hy236⟩ : ∃ y_ : List (S51), y_ = (([(⟨6, a1, (a0.size : Int), (⟨#[]⟩ : ByteArray), t234⟩ : S51)] : List (S51))) := ⟨_, rfl⟩
 replace H : (some (y236, t235)) = some (r1, r2) := by ((rw [hy236]; with_reducible exact H))
 have Ny236 := Aside0.mk hy236
 clear hy236
 rotate_left
 ·rw [if_neg c46] at H
  exact absurd H (by simp)
 ·rw [if_neg c45] at H
  exact absurd H (by simp)
 ·rw [if_neg c44] at H
  exact absurd H (by simp)
 by_cases c51 : 0 ≤ a1
 rw [if_pos c51] at H
 have c51b0 := eq_true c51
 have c51b1 : decide (0 ≤ a1) = true := decide_eq_true c51
 clear c51
 by_cases c52 : a1 ≤ t233
 rw [if_pos c52] at H
 have c52b0 := eq_true c52
 have c52b1 : decide (a1 ≤ t233) = true := decide_eq_true c52
 clear c52
 by_cases c53 : t233 ≤ (a0.size : Int)
 rw [if_pos c53] at H
 have c53b0 := eq_true c53
 have c53b1 : decide (t233 ≤ (a0.size : Int)) = true := decide_eq_true c53
 clear c53
 replace H := Option.bind_eq_some_iff.mp H
 obtain ⟨⟨t239, t240⟩, A540, H⟩ := H
 dsimp only at H
 have A54 := Aside0.mk A540
 clear A540
 obtain ⟨y241, hy241⟩ : ∃ y_ : List (S51), y_ = (([(⟨6, a1, t233, (⟨#[]⟩ : ByteArray), t239⟩ : S51)] : List (S51))) := ⟨_, rfl⟩
 replace H : (some (y241, t240)) = some (r1, r2) := by ((rw [hy241]; with_reducible exact H))
 have Ny241 := Aside0.mk hy241
 clear hy241
 rotate_left
 ·rw [if_neg c53] at H
  exact absurd H (by simp)
 ·rw [if_neg c52] at H
  exact absurd H (by simp)
 ·rw [if_neg c51] at H
  exact absurd H (by simp)
 all_goals
  simp only [Option.some.injEq, Prod.mk.injEq] at H
  obtain ⟨rfl, rfl⟩ := H
  go_enter Tryz.func66, Tryz.ntmps66
  go_wp2_with (first | ((with_reducible refine gate_callee (f := 93) rfl ?_); refine goesL_ (some 15) rfl rfl Tryz.func93 (by kernel_rfl) rfl #[.string a0, .int .i64 a1, .string (⟨#[60, 33, 45, 45]⟩ : ByteArray)] rfl (zz1) ?_; (with_reducible refine (R2_begins.calls a0 a1 (⟨#[60, 33, 45, 45]⟩ : ByteArray) false _ A3.out).mono ?_); rintro e w' ⟨rfl, ⟨nd, rfl⟩⟩; refine ⟨_, rfl, ?_⟩) | ((with_reducible refine gate_callee (f := 93) rfl ?_); refine goesL_ (some 15) rfl rfl Tryz.func93 (by kernel_rfl) rfl #[.string a0, .int .i64 a1, .string (⟨#[60, 33, 45, 45]⟩ : ByteArray)] rfl (zz1) ?_; (with_reducible refine (R2_begins.calls a0 a1 (⟨#[60, 33, 45, 45]⟩ : ByteArray) true _ A3.out).mono ?_); rintro e w' ⟨rfl, ⟨nd, rfl⟩⟩; refine ⟨_, rfl, ?_⟩) | ((with_reducible refine gate_callee (f := 94) rfl ?_); refine goesL_ (some 19) rfl rfl Tryz.func94 (by kernel_rfl) rfl #[.string a0, .int .i64 (wrap64 (a1 + 4)), .string (⟨#[45, 45]⟩ : ByteArray)] rfl (zz1) ?_; (with_reducible refine (R2_find.calls k a0 (wrap64 (a1 + 4)) (⟨#[45, 45]⟩ : ByteArray) t211 _ A5.out).mono ?_); rintro e w' ⟨rfl, ⟨nd, rfl⟩⟩; refine ⟨_, rfl, ?_⟩) | ((with_reducible refine gate_callee (f := 94) rfl ?_); refine goesL_ (some 19) rfl rfl Tryz.func94 (by kernel_rfl) rfl #[.string a0, .int .i64 ji9, .string (⟨#[45, 45]⟩ : ByteArray)] rfl (zz1) ?_; (with_reducible refine (R2_find.calls k a0 ji9 (⟨#[45, 45]⟩ : ByteArray) t211 _ A5.out).mono ?_); rintro e w' ⟨rfl, ⟨nd, rfl⟩⟩; refine ⟨_, rfl, ?_⟩) | (go_at_call 93; (with_reducible refine (R2_begins.calls a0 t211 (⟨#[45, 45, 62]⟩ : ByteArray) true _ A7.out).mono ?_); rintro e w' ⟨rfl, ⟨nd, rfl⟩⟩) | ((with_reducible refine gate_dst (N := 37) rfl ?_); refine Kd.R_lit k51 _ 51 ?hg (N := 37) ?hd (xs := ([(⟨7, a1, wrap64 (t211 + 3), (⟨#[]⟩ : ByteArray), a0.extract ((ji9) : Int).toNat (t211 : Int).toNat⟩ : S51)] : List (S51))) (inner := [.int .i64 7, .int .i64 a1, .int .i64 (wrap64 (t211 + 3)), .string (⟨#[]⟩ : ByteArray), .string (a0.extract ((ji9) : Int).toNat (t211 : Int).toNat)]) (ok := fun _ => True) (okp := fun _ => True) ?hr ?hp (fun _ hk => hk) trivial (Below.refl _ _) (Nat.le_refl _) (by simp) ?_; (case hd => rfl); (case hg => rfl); (case hr => ((go_simp; done))); (case hp => exact (Reps.c5 (show Kd.M k51 _ _ _ (⟨7, a1, wrap64 (t211 + 3), (⟨#[]⟩ : ByteArray), a0.extract ((ji9) : Int).toNat (t211 : Int).toNat⟩ : S51) [.int .i64 7, .int .i64 a1, .int .i64 (wrap64 (t211 + 3)), .string (⟨#[]⟩ : ByteArray), .string (a0.extract ((ji9) : Int).toNat (t211 : Int).toNat)] from (k51_mkM _ _ _ (⟨7, a1, wrap64 (t211 + 3), (⟨#[]⟩ : ByteArray), a0.extract ((ji9) : Int).toNat (t211 : Int).toNat⟩ : S51) )) (Reps.none _ _))); intro vz1 wz1 hoz1 hb hg_ hnew_; clear hg_ hnew_; (rw [← Ny213.out] at hoz1); have n0_ := Aside0.mk (Kd.R_lower hoz1 (below_size (zz3))); have n1_ := Aside0.mk (below_step (zz3) hb); clear HB; have HOz1 := n0_; have HB := n1_; clear n0_ n1_; clear hb hoz1) | (go_at_call 93; (with_reducible refine (R2_begins.calls a0 t211 (⟨#[45, 45, 62]⟩ : ByteArray) false _ A7.out).mono ?_); rintro e w' ⟨rfl, ⟨nd, rfl⟩⟩) | ((with_reducible refine gate_callee (f := 93) rfl ?_); refine goesL_ (some 40) rfl rfl Tryz.func93 (by kernel_rfl) rfl #[.string a0, .int .i64 a1, .string (⟨#[60, 33, 91, 67, 68, 65, 84, 65, 91]⟩ : ByteArray)] rfl (zz1) ?_; (with_reducible refine (R2_begins.calls a0 a1 (⟨#[60, 33, 91, 67, 68, 65, 84, 65, 91]⟩ : ByteArray) false _ A15.out).mono ?_); rintro e w' ⟨rfl, ⟨nd, rfl⟩⟩; refine ⟨_, rfl, ?_⟩) | ((with_reducible refine gate_callee (f := 93) rfl ?_); refine goesL_ (some 40) rfl rfl Tryz.func93 (by kernel_rfl) rfl #[.string a0, .int .i64 a1, .string (⟨#[60, 33, 91, 67, 68, 65, 84, 65, 91]⟩ : ByteArray)] rfl (zz1) ?_; (with_reducible refine (R2_begins.calls a0 a1 (⟨#[60, 33, 91, 67, 68, 65, 84, 65, 91]⟩ : ByteArray) true _ A15.out).mono ?_); rintro e w' ⟨rfl, ⟨nd, rfl⟩⟩; refine ⟨_, rfl, ?_⟩) | ((with_reducible refine gate_callee (f := 94) rfl ?_); refine goesL_ (some 44) rfl rfl Tryz.func94 (by kernel_rfl) rfl #[.string a0, .int .i64 (wrap64 (a1 + 9)), .string (⟨#[93, 93, 62]⟩ : ByteArray)] rfl (zz1) ?_; (with_reducible refine (R2_find.calls k a0 (wrap64 (a1 + 9)) (⟨#[93, 93, 62]⟩ : ByteArray) t217 _ A17.out).mono ?_); rintro e w' ⟨rfl, ⟨nd, rfl⟩⟩; refine ⟨_, rfl, ?_⟩) | ((with_reducible refine gate_callee (f := 94) rfl ?_); refine goesL_ (some 44) rfl rfl Tryz.func94 (by kernel_rfl) rfl #[.string a0, .int .i64 ji19, .string (⟨#[93, 93, 62]⟩ : ByteArray)] rfl (zz1) ?_; (with_reducible refine (R2_find.calls k a0 ji19 (⟨#[93, 93, 62]⟩ : ByteArray) t217 _ A17.out).mono ?_); rintro e w' ⟨rfl, ⟨nd, rfl⟩⟩; refine ⟨_, rfl, ?_⟩) | ((with_reducible refine gate_dst (N := 56) rfl ?_); refine Kd.R_lit k51 _ 51 ?hg (N := 56) ?hd (xs := ([(⟨6, a1, wrap64 (t217 + 3), (⟨#[]⟩ : ByteArray), a0.extract ((ji19) : Int).toNat (t217 : Int).toNat⟩ : S51)] : List (S51))) (inner := [.int .i64 6, .int .i64 a1, .int .i64 (wrap64 (t217 + 3)), .string (⟨#[]⟩ : ByteArray), .string (a0.extract ((ji19) : Int).toNat (t217 : Int).toNat)]) (ok := fun _ => True) (okp := fun _ => True) ?hr ?hp (fun _ hk => hk) trivial (Below.refl _ _) (Nat.le_refl _) (by simp) ?_; (case hd => rfl); (case hg => rfl); (case hr => ((go_simp; done))); (case hp => exact (Reps.c5 (show Kd.M k51 _ _ _ (⟨6, a1, wrap64 (t217 + 3), (⟨#[]⟩ : ByteArray), a0.extract ((ji19) : Int).toNat (t217 : Int).toNat⟩ : S51) [.int .i64 6, .int .i64 a1, .int .i64 (wrap64 (t217 + 3)), .string (⟨#[]⟩ : ByteArray), .string (a0.extract ((ji19) : Int).toNat (t217 : Int).toNat)] from (k51_mkM _ _ _ (⟨6, a1, wrap64 (t217 + 3), (⟨#[]⟩ : ByteArray), a0.extract ((ji19) : Int).toNat (t217 : Int).toNat⟩ : S51) )) (Reps.none _ _))); intro vz1 wz1 hoz1 hb hg_ hnew_; clear hg_ hnew_; (rw [← Ny218.out] at hoz1); have n0_ := Aside0.mk (Kd.R_lower hoz1 (below_size (zz3))); have n1_ := Aside0.mk (below_step (zz3) hb); clear HB; have HOz1 := n0_; have HB := n1_; clear n0_ n1_; clear hb hoz1) | ((with_reducible refine gate_callee (f := 93) rfl ?_); refine goesL_ (some 59) rfl rfl Tryz.func93 (by kernel_rfl) rfl #[.string a0, .int .i64 a1, .string (⟨#[60, 47]⟩ : ByteArray)] rfl (zz1) ?_; (with_reducible refine (R2_begins.calls a0 a1 (⟨#[60, 47]⟩ : ByteArray) false _ A25.out).mono ?_); rintro e w' ⟨rfl, ⟨nd, rfl⟩⟩; refine ⟨_, rfl, ?_⟩) | ((with_reducible refine gate_callee (f := 93) rfl ?_); refine goesL_ (some 59) rfl rfl Tryz.func93 (by kernel_rfl) rfl #[.string a0, .int .i64 a1, .string (⟨#[60, 47]⟩ : ByteArray)] rfl (zz1) ?_; (with_reducible refine (R2_begins.calls a0 a1 (⟨#[60, 47]⟩ : ByteArray) true _ A25.out).mono ?_); rintro e w' ⟨rfl, ⟨nd, rfl⟩⟩; refine ⟨_, rfl, ?_⟩) | ((with_reducible refine gate_callee (f := 53) rfl ?_); refine goesL_ (some 63) rfl rfl Tryz.func53 (by kernel_rfl) rfl #[.string a0, .int .i64 (wrap64 (a1 + 2))] rfl (zz1) ?_; (with_reducible refine (R1_NameEnd.calls k a0 (wrap64 (a1 + 2)) t222 _ A27.out).mono ?_); rintro e w' ⟨rfl, ⟨nd, rfl⟩⟩; refine ⟨_, rfl, ?_⟩) | ((with_reducible refine gate_callee (f := 67) rfl ?_); refine goesL_ (some 66) rfl rfl Tryz.func67 (by kernel_rfl) rfl #[.string a0, .int .i64 t222] rfl (zz1) ?_; (with_reducible refine (R1_Skip.calls k a0 t222 t223 _ A28.out).mono ?_); rintro e w' ⟨rfl, ⟨nd, rfl⟩⟩; refine ⟨_, rfl, ?_⟩) | ((with_reducible refine gate_callee (f := 53) rfl ?_); refine goesL_ (some 63) rfl rfl Tryz.func53 (by kernel_rfl) rfl #[.string a0, .int .i64 ji32] rfl (zz1) ?_; (with_reducible refine (R1_NameEnd.calls k a0 ji32 t222 _ A27.out).mono ?_); rintro e w' ⟨rfl, ⟨nd, rfl⟩⟩; refine ⟨_, rfl, ?_⟩) | (go_at_call 93; (with_reducible refine (R2_begins.calls a0 t223 (⟨#[62]⟩ : ByteArray) true _ A30.out).mono ?_); rintro e w' ⟨rfl, ⟨nd, rfl⟩⟩) | ((with_reducible refine gate_dst (N := 86) rfl ?_); refine Kd.R_lit k51 _ 51 ?hg (N := 86) ?hd (xs := ([(⟨5, a1, wrap64 (t223 + 1), a0.extract ((ji32) : Int).toNat (t222 : Int).toNat, (⟨#[]⟩ : ByteArray)⟩ : S51)] : List (S51))) (inner := [.int .i64 5, .int .i64 a1, .int .i64 (wrap64 (t223 + 1)), .string (a0.extract ((ji32) : Int).toNat (t222 : Int).toNat), .string (⟨#[]⟩ : ByteArray)]) (ok := fun _ => True) (okp := fun _ => True) ?hr ?hp (fun _ hk => hk) trivial (Below.refl _ _) (Nat.le_refl _) (by simp) ?_; (case hd => rfl); (case hg => rfl); (case hr => ((go_simp; done))); (case hp => exact (Reps.c5 (show Kd.M k51 _ _ _ (⟨5, a1, wrap64 (t223 + 1), a0.extract ((ji32) : Int).toNat (t222 : Int).toNat, (⟨#[]⟩ : ByteArray)⟩ : S51) [.int .i64 5, .int .i64 a1, .int .i64 (wrap64 (t223 + 1)), .string (a0.extract ((ji32) : Int).toNat (t222 : Int).toNat), .string (⟨#[]⟩ : ByteArray)] from (k51_mkM _ _ _ (⟨5, a1, wrap64 (t223 + 1), a0.extract ((ji32) : Int).toNat (t222 : Int).toNat, (⟨#[]⟩ : ByteArray)⟩ : S51) )) (Reps.none _ _))); intro vz1 wz1 hoz1 hb hg_ hnew_; clear hg_ hnew_; (rw [← Ny225.out] at hoz1); have n0_ := Aside0.mk (Kd.R_lower hoz1 (below_size (zz3))); have n1_ := Aside0.mk (below_step (zz3) hb); clear HB; have HOz1 := n0_; have HB := n1_; clear n0_ n1_; clear hb hoz1) | (go_at_call 93; (with_reducible refine (R2_begins.calls a0 t223 (⟨#[62]⟩ : ByteArray) false _ A30.out).mono ?_); rintro e w' ⟨rfl, ⟨nd, rfl⟩⟩) | ((with_reducible refine gate_callee (f := 93) rfl ?_); refine goesL_ (some 89) rfl rfl Tryz.func93 (by kernel_rfl) rfl #[.string a0, .int .i64 a1, .string (⟨#[60]⟩ : ByteArray)] rfl (zz1) ?_; (with_reducible refine (R2_begins.calls a0 a1 (⟨#[60]⟩ : ByteArray) false _ A38.out).mono ?_); rintro e w' ⟨rfl, ⟨nd, rfl⟩⟩; refine ⟨_, rfl, ?_⟩) | ((with_reducible refine gate_callee (f := 93) rfl ?_); refine goesL_ (some 89) rfl rfl Tryz.func93 (by kernel_rfl) rfl #[.string a0, .int .i64 a1, .string (⟨#[60]⟩ : ByteArray)] rfl (zz1) ?_; (with_reducible refine (R2_begins.calls a0 a1 (⟨#[60]⟩ : ByteArray) true _ A38.out).mono ?_); rintro e w' ⟨rfl, ⟨nd, rfl⟩⟩; refine ⟨_, rfl, ?_⟩) | ((with_reducible refine gate_callee (f := 95) rfl ?_); refine goesL_ (some 92) rfl rfl Tryz.func95 (by kernel_rfl) rfl #[.string a0, .int .i64 a1] rfl (zz1) ?_; (with_reducible refine (R2_tag.calls k a0 a1 t229 t230 _ A40.out).mono ?_); rintro e wz1 ⟨vz1, rfl, ho0, hb⟩; refine ⟨_, rfl, ?_⟩; have n0_ := Aside0.mk (Kd.R_lower ho0 (below_size (zz3))); have n1_ := Aside0.mk (below_step (zz3) hb); clear HB; have HOz1 := n0_; have HB := n1_; clear n0_ n1_; (clear hb); (clear ho0)) | ((with_reducible refine gate_callee (f := 94) rfl ?_); refine goesL_ (some 97) rfl rfl Tryz.func94 (by kernel_rfl) rfl #[.string a0, .int .i64 a1, .string (⟨#[60]⟩ : ByteArray)] rfl (zz1) ?_; (with_reducible refine (R2_find.calls k a0 a1 (⟨#[60]⟩ : ByteArray) t233 _ A42.out).mono ?_); rintro e w' ⟨rfl, ⟨nd, rfl⟩⟩; refine ⟨_, rfl, ?_⟩) | ((with_reducible refine gate_callee (f := 96) rfl ?_); refine goesL_ (some 107) rfl rfl Tryz.func96 (by kernel_rfl) rfl #[.string (a0.extract (a1 : Int).toNat ((a0.size : Int) : Int).toNat)] rfl (zz1) ?_; (with_reducible refine (R2_decoded.calls k (a0.extract (a1 : Int).toNat ((a0.size : Int) : Int).toNat) t234 t235 _ A47.out).mono ?_); rintro e wz1 ⟨rfl, hb⟩; refine ⟨_, rfl, ?_⟩; have n0_ := Aside0.mk (below_step (zz3) hb); clear HB; have HB := n0_; clear n0_; (clear hb)) | ((with_reducible refine gate_dst (N := 114) rfl ?_); refine Kd.R_lit k51 _ 51 ?hg (N := 114) ?hd (xs := ([(⟨6, a1, (a0.size : Int), (⟨#[]⟩ : ByteArray), t234⟩ : S51)] : List (S51))) (inner := [.int .i64 6, .int .i64 a1, .int .i64 (a0.size : Int), .string (⟨#[]⟩ : ByteArray), .string t234]) (ok := fun _ => True) (okp := fun _ => True) ?hr ?hp (fun _ hk => hk) trivial (Below.refl _ _) (Nat.le_refl _) (by simp) ?_; (case hd => rfl); (case hg => rfl); (case hr => ((go_simp; done))); (case hp => exact (Reps.c5 (show Kd.M k51 _ _ _ (⟨6, a1, (a0.size : Int), (⟨#[]⟩ : ByteArray), t234⟩ : S51) [.int .i64 6, .int .i64 a1, .int .i64 (a0.size : Int), .string (⟨#[]⟩ : ByteArray), .string t234] from (k51_mkM _ _ _ (⟨6, a1, (a0.size : Int), (⟨#[]⟩ : ByteArray), t234⟩ : S51) )) (Reps.none _ _))); intro vz1 wz2 hoz1 hb hg_ hnew_; clear hg_ hnew_; (rw [← Ny236.out] at hoz1); have n0_ := Aside0.mk (Kd.R_lower hoz1 (below_size (zz0))); have n1_ := Aside0.mk (below_step (zz0) hb); clear HB; have HOz1 := n0_; have HB := n1_; clear n0_ n1_; clear hb hoz1) | ((with_reducible refine gate_callee (f := 96) rfl ?_); refine goesL_ (some 107) rfl rfl Tryz.func96 (by kernel_rfl) rfl #[.string (a0.extract (a1 : Int).toNat (t233 : Int).toNat)] rfl (zz1) ?_; (with_reducible refine (R2_decoded.calls k (a0.extract (a1 : Int).toNat (t233 : Int).toNat) t239 t240 _ A54.out).mono ?_); rintro e wz1 ⟨rfl, hb⟩; refine ⟨_, rfl, ?_⟩; have n0_ := Aside0.mk (below_step (zz3) hb); clear HB; have HB := n0_; clear n0_; (clear hb)) | ((with_reducible refine gate_dst (N := 114) rfl ?_); refine Kd.R_lit k51 _ 51 ?hg (N := 114) ?hd (xs := ([(⟨6, a1, t233, (⟨#[]⟩ : ByteArray), t239⟩ : S51)] : List (S51))) (inner := [.int .i64 6, .int .i64 a1, .int .i64 t233, .string (⟨#[]⟩ : ByteArray), .string t239]) (ok := fun _ => True) (okp := fun _ => True) ?hr ?hp (fun _ hk => hk) trivial (Below.refl _ _) (Nat.le_refl _) (by simp) ?_; (case hd => rfl); (case hg => rfl); (case hr => ((go_simp; done))); (case hp => exact (Reps.c5 (show Kd.M k51 _ _ _ (⟨6, a1, t233, (⟨#[]⟩ : ByteArray), t239⟩ : S51) [.int .i64 6, .int .i64 a1, .int .i64 t233, .string (⟨#[]⟩ : ByteArray), .string t239] from (k51_mkM _ _ _ (⟨6, a1, t233, (⟨#[]⟩ : ByteArray), t239⟩ : S51) )) (Reps.none _ _))); intro vz1 wz2 hoz1 hb hg_ hnew_; clear hg_ hnew_; (rw [← Ny241.out] at hoz1); have n0_ := Aside0.mk (Kd.R_lower hoz1 (below_size (zz0))); have n1_ := Aside0.mk (below_step (zz0) hb); clear HB; have HOz1 := n0_; have HB := n1_; clear n0_ n1_; clear hb hoz1))
  go_ret2
  first | (exact ⟨_, by rfl, zz33, zz3⟩) | (exact ⟨_, by rfl, by (with_reducible repeat (first | apply Kd.R_alloc | apply Kd.R_drewN | apply Kd.R_drew)); exact HOz1.out, zz0⟩)
def R2_Lex.l0 : Nat → ByteArray → List (S51) → Int → Option ((List (S51)) × Int)
 | 0, _, _, _ => none
 | k + 1, x0, x5, x6 => if x6 < (x0.size : Int) then ((R2_piece.f k x0 x6).bind fun bt245 => (if bt245.2 = true then (if (bt245.1.length : Int) = 0 then (some (([] : List (S51)), 15)) else (if x5.length + bt245.1.length < 2513169434916 then (if 0 ≤ (wrap64 ((bt245.1.length : Int) - 1)) then (if (wrap64 ((bt245.1.length : Int) - 1)) < (bt245.1.length : Int) then (R2_Lex.l0 k x0 (x5 ++ bt245.1) ((rd_T51 bt245.1 (wrap64 ((bt245.1.length : Int) - 1))).f2)) else (none)) else (none)) else (none))) else (some (([] : List (S51)), 15)))) else (some (x5, 0))
def R2_Lex.f (k : Nat) (a0 : ByteArray) : Option ((List (S51)) × Int) := if (a0.size : Int) > 65536 then (some (([] : List (S51)), 18)) else ((R1_Valid.f k a0).bind fun t244 => (if t244 = true then (R2_Lex.l0 k a0 ([] : List (S51)) 0) else (some (([] : List (S51)), 15))))
theorem R2_Lex.mono_l : ∀ k, (∀ y0 y1 y2, LeO (R2_Lex.l0 k y0 y1 y2) (R2_Lex.l0 (k + 1) y0 y1 y2))
 | 0 => fun _ _ _ r h => by simp [R2_Lex.l0] at h
 | k + 1 => by
  have ih0 := R2_Lex.mono_l k
  ·intro y0 y1 y2
   unfold R2_Lex.l0
   have mo0 := @R1_Valid.mono; have mo1 := @R2_piece.mono; exact leT
theorem R2_Lex.mono : ∀ a0 k, LeO (R2_Lex.f k a0) (R2_Lex.f (k + 1) a0) := by
 intro a0 k
 have ih0 := R2_Lex.mono_l k
 unfold R2_Lex.f
 have mo0 := @R1_Valid.mono; have mo1 := @R2_piece.mono; exact leT
set_option maxHeartbeats 8000000 in
set_option maxRecDepth 100000 in
theorem R2_Lex.calls (k : Nat) (a0 : ByteArray) (r1 : List (S51)) (r2 : Int) (w : World) (h : R2_Lex.f k a0 = some (r1, r2)) :
 Calls Tryz.prog 32 #[.string a0] w fun e w' => ∃ v0_ : Value, e = .returned (.tuple #[v0_, .int .i64 r2]) ∧ Kd.R k51 51 w' w.heap.size (fun _ => True) v0_ r1 ∧ Below w.heap.size w w' := by
 have HB := Aside0.mk (Below.refl w.heap.size w)
 have H : (if (a0.size : Int) > 65536 then (some (([] : List (S51)), 18)) else ((R1_Valid.f k a0).bind fun t244 => (if t244 = true then (R2_Lex.l0 k a0 ([] : List (S51)) 0) else (some (([] : List (S51)), 15))))) = some (r1, r2) := h
 clear h
 by_cases c2 : (a0.size : Int) > 65536
 ·rw [if_pos c2] at H
  have c2b0 : decide (65536 < (a0.size : Int)) = true := decide_eq_true c2
  have c2b1 : decide (65536 < a0.size) = true := decide_eq_true (by omega)
  clear c2
  simp only [Option.some.injEq, Prod.mk.injEq] at H
  obtain ⟨rfl, rfl⟩ := H
  go_enter Tryz.func32, Tryz.ntmps32
  go_wp2
  go_ret2
  exact ⟨_, by rfl, zz33, zz0⟩
 ·rw [if_neg c2] at H
  have c2b0 : decide (65536 < (a0.size : Int)) = false := decide_eq_false c2
  have c2b1 : decide (65536 < a0.size) = false := decide_eq_false (by omega)
  clear c2
  replace H := Option.bind_eq_some_iff.mp H
  obtain ⟨t244, A30, H⟩ := H
  have A3 := Aside0.mk A30
  clear A30
  by_cases c4 : t244 = true
  ·subst c4
   rw [if_pos rfl] at H
   have H' := Aside0.mk H
   clear H
   go_enter Tryz.func32, Tryz.ntmps32
   go_wp2_with ((((with_reducible refine gate_callee (f := 65) rfl ?_); refine goesL_ (some 13) rfl rfl Tryz.func65 (by kernel_rfl) rfl #[.string a0] rfl (zz1) ?_; (with_reducible refine (R1_Valid.calls k a0 true _ A3.out).mono ?_); rintro e w5 ⟨rfl, hb⟩; refine ⟨_, rfl, ?_⟩; have n0_ := Aside0.mk (below_step (zz0) hb); clear HB; have HB := n0_; clear n0_; (clear hb))))
   go_loopg [5, 6] k (fun kq v5 v6 w' => ∃ (x5_1 : List (S51)) (x6_1 : Int), v6 = .int .i64 x6_1 ∧ Aside0 (R2_Lex.l0 kq a0 x5_1 x6_1 = some (r1, r2)) ∧ Aside0 (kq ≤ k) ∧ Aside0 (Kd.R k51 51 w' w.heap.size (fun _ => True) v5 x5_1) ∧ Aside0 (Below w.heap.size w w'))
   case atStart => exact ⟨(([] : List (S51))), (0), (by rfl), H', ⟨Nat.le_refl _⟩, ⟨zz33⟩, ⟨zz0⟩⟩
   case round =>
    clear H'
    clear c2b0
    clear c2b1
    obtain ⟨x5_1, x6_1, rfl, HA, HK1, HO_5, HB⟩ := hrel
    cases gk with
    | zero => exact absurd HA.out (by simp [R2_Lex.l0])
    | succ k1 =>
     have H := HA.out
     clear HA
     simp only [R2_Lex.l0] at H
     by_cases c6 : x6_1 < (a0.size : Int)
     ·rw [if_pos c6] at H
      have c6b0 : decide (x6_1 < (a0.size : Int)) = true := decide_eq_true c6
      clear c6
      replace H := Option.bind_eq_some_iff.mp H
      obtain ⟨⟨t245, t246⟩, A70, H⟩ := H
      dsimp only at H
      have A7 := Aside0.mk A70
      clear A70
      by_cases c8 : t246 = true
      ·subst c8
       rw [if_pos rfl] at H
       by_cases c9 : (t245.length : Int) = 0
       ·rw [if_pos c9] at H
        have c9b0 : ((t245.length : Int) == 0) = true := beq_iff_eq.mpr c9
        have c9b1 : ((t245.length : Int) != 0) = false := bne_eq_false_iff_eq.mpr c9
        clear c9
        simp only [Option.some.injEq, Prod.mk.injEq] at H
        obtain ⟨rfl, rfl⟩ := H
        go_wp2_with ((((with_reducible refine gate_callee (f := 66) rfl ?_); refine goesL_ (some 23) rfl rfl Tryz.func66 (by kernel_rfl) rfl #[.string a0, .int .i64 x6_1] rfl (zz1) ?_; (with_reducible refine (R2_piece.calls k1 a0 x6_1 t245 true _ A7.out).mono ?_); rintro e w10 ⟨v247, rfl, ho0, hb⟩; refine ⟨_, rfl, ?_⟩; have n0_ := Aside0.mk (Kd.R_elder' (zz10) (Kd.R_base ho0) hb); have n1_ := Aside0.mk (Kd.R_lower (Kd.R_new' ho0 (Kd.R_lt (zz10))) (below_size (zz0))); have n2_ := Aside0.mk (below_step (zz0) hb); clear HO_5; clear HB; have HO_5 := n0_; have HO248 := n1_; have HB := n2_; clear n0_ n1_ n2_; (clear hb); (clear ho0); obtain ⟨Ao11, co11, eo11⟩ := Kd.R_slice HO248.out; subst eo11)))
        go_ret2
        exact ⟨_, by rfl, zz33, zz0⟩
       ·rw [if_neg c9] at H
        have c9b0 : ((t245.length : Int) == 0) = false := beq_eq_false_iff_ne.mpr c9
        have c9b1 : ((t245.length : Int) != 0) = true := bne_iff_ne.mpr c9
        have c9b2 : ¬ (t245 = []) := fun h_ => c9 (by rw [h_]; rfl)
        by_cases c12 : x5_1.length + t245.length < 2513169434916
        ·rw [if_pos c12] at H
         have LMc12 := Aside0.mk c12
         clear c12
         obtain ⟨y249, hy249⟩ : ∃ y_ : List (S51), y_ = (x5_1 ++ t245) := ⟨_, rfl⟩
         replace H : (if 0 ≤ (wrap64 ((t245.length : Int) - 1)) then (if (wrap64 ((t245.length : Int) - 1)) < (t245.length : Int) then (R2_Lex.l0 k1 a0 y249 ((rd_T51 t245 (wrap64 ((t245.length : Int) - 1))).f2)) else (none)) else (none)) = some (r1, r2) := by ((rw [hy249]; with_reducible exact H))
         have Ny249 := Aside0.mk hy249
         clear hy249
         obtain ⟨ji13, hji13⟩ : ∃ j_ : Int, (wrap64 ((t245.length : Int) - 1)) = j_ := ⟨_, rfl⟩
         replace H : (if 0 ≤ (ji13) then (if (ji13) < (t245.length : Int) then (R2_Lex.l0 k1 a0 y249 ((rd_T51 t245 (ji13)).f2)) else (none)) else (none)) = some (r1, r2) := by ((rw [hji13] at H; exact H))
         have hji13w : (IntKind.i64.wrap ((t245.length : Int) - 1)) = ji13 := (i64_w _).trans hji13
         by_cases c14 : 0 ≤ (ji13)
         ·rw [if_pos c14] at H
          have c14b0 : decide (0 ≤ (ji13)) = true := decide_eq_true c14
          clear c14
          by_cases c15 : (ji13) < (t245.length : Int)
          ·rw [if_pos c15] at H
           have c15b0 : decide ((ji13) < (t245.length : Int)) = true := decide_eq_true c15
           clear c15
           have H' := Aside0.mk H
           clear H
           go_wp2_with (first | ((with_reducible refine gate_callee (f := 66) rfl ?_); refine goesL_ (some 23) rfl rfl Tryz.func66 (by kernel_rfl) rfl #[.string a0, .int .i64 x6_1] rfl (zz1) ?_; (with_reducible refine (R2_piece.calls k1 a0 x6_1 t245 true _ A7.out).mono ?_); rintro e w16 ⟨v247, rfl, ho0, hb⟩; refine ⟨_, rfl, ?_⟩; have n0_ := Aside0.mk (Kd.R_elder' (zz10) (Kd.R_base ho0) hb); have n1_ := Aside0.mk (Kd.R_lower (Kd.R_new' ho0 (Kd.R_lt (zz10))) (below_size (zz0))); have n2_ := Aside0.mk (below_step (zz0) hb); clear HO_5; clear HB; have HO_5 := n0_; have HO248 := n1_; have HB := n2_; clear n0_ n1_ n2_; (clear hb); (clear ho0); obtain ⟨Ao17, co17, eo17⟩ := Kd.R_slice HO248.out; subst eo17) | ((with_reducible refine gate_builtin (b := .append) (xs := #[.tmp 33, .tmp 34]) rfl ?_); (((refine gate_guard (by rfl) ?_; dsimp only))); at_builtin; refine Kd.R_append_rows k51 (w0 := w) w.heap.size rfl (.tmp 33) (.tmp 34) 43 51 (.agg #[(.int .i64 0), (.int .i64 0), (.int .i64 0), (.string ⟨#[]⟩), (.string ⟨#[]⟩)]) 56 rfl Tryz.underlying43 info51 rfl (by decide) (by omega) u5 x5_1 t245 _ _ _ (fun k_ => some k_ ≠ (.slice Ao17 t245.length co17 : Value).ownBlock) (fun _ => False) rfl rfl ?aO ?aR (fun _ _ h => h) (fun _ h => h.elim) ?aF ?aB ?aS ?aL ?_; (case aR => repeat (exact (Kd.R_reads' HO248.out).2.2)); (case aB => exact (zz0)); (case aF => exact (fun k_ hk => Kd.fresh' (Kd.R_lt (by (with_reducible repeat (first | apply Kd.R_alloc | apply Kd.R_drewN | apply Kd.R_drew)); exact HO248.out)) k_ hk)); (case aO => exact (by (with_reducible repeat (first | apply Kd.R_alloc | apply Kd.R_drewN | apply Kd.R_drew)); exact Kd.R_mono HO_5.out (fun _ hk => hk.2))); (case aS => exact (below_size (zz0))); (case aL => have := LMc12.out; omega); intro v250 w18 ho hb hg hat; rw [← Ny249.out] at ho; have n0_ := Aside0.mk (Kd.R_after (ok := (fun _ => True)) (by (with_reducible repeat (first | apply Kd.R_alloc | apply Kd.R_drewN | apply Kd.R_drew)); exact HO248.out) hg hat); have n1_ := Aside0.mk (hb); have n2_ := Aside0.mk (ho); clear HO248; clear HB; clear HO_5; have HO248 := n0_; have HB := n1_; have HO251 := n2_; clear n0_ n1_ n2_; clear ho hb hg hat; have p252 : 0 ≤ ((ji13) : Int) := of_decide_eq_true (zz5); have q252 : (ji13) < (t245.length : Int) := of_decide_eq_true (zz5); obtain ⟨ad252, e252, hx252_0, hx252_1, hx252_2, hx252_3, hx252_4⟩ := at_T51 (Kd.R_reads' HO248.out).2.2 (ji13) p252 q252; cases e252; replace p252 := eq_true p252; replace q252 := eq_true q252))
           go_roundg k1
           case measure => have := HK1.out; omega
           case rel => exact ⟨(y249), ((rd_T51 t245 (ji13)).f2), (by rfl), H', ⟨zz49⟩, ⟨by (with_reducible repeat (first | apply Kd.R_alloc | apply Kd.R_drewN | apply Kd.R_drew)); exact Kd.R_mono HO251.out (fun _ hk => trivial)⟩, ⟨zz0⟩⟩
          ·rw [if_neg c15] at H
           exact absurd H (by simp)
         ·rw [if_neg c14] at H
          exact absurd H (by simp)
        ·rw [if_neg c12] at H
         exact absurd H (by simp)
      ·replace c8 := Bool.eq_false_iff.mpr c8
       subst c8
       rw [if_neg (show ¬ (false = true) by decide)] at H
       simp only [Option.some.injEq, Prod.mk.injEq] at H
       obtain ⟨rfl, rfl⟩ := H
       go_wp2_with ((((with_reducible refine gate_callee (f := 66) rfl ?_); refine goesL_ (some 23) rfl rfl Tryz.func66 (by kernel_rfl) rfl #[.string a0, .int .i64 x6_1] rfl (zz1) ?_; (with_reducible refine (R2_piece.calls k1 a0 x6_1 t245 false _ A7.out).mono ?_); rintro e w19 ⟨v247, rfl, ho0, hb⟩; refine ⟨_, rfl, ?_⟩; have n0_ := Aside0.mk (Kd.R_elder' (zz10) (Kd.R_base ho0) hb); have n1_ := Aside0.mk (Kd.R_lower (Kd.R_new' ho0 (Kd.R_lt (zz10))) (below_size (zz0))); have n2_ := Aside0.mk (below_step (zz0) hb); clear HO_5; clear HB; have HO_5 := n0_; have HO248 := n1_; have HB := n2_; clear n0_ n1_ n2_; (clear hb); (clear ho0))))
       go_ret2
       exact ⟨_, by rfl, zz33, zz0⟩
     ·rw [if_neg c6] at H
      have c6b0 : decide (x6_1 < (a0.size : Int)) = false := decide_eq_false c6
      clear c6
      simp only [Option.some.injEq, Prod.mk.injEq] at H
      obtain ⟨rfl, rfl⟩ := H
      go_wp2
      go_ret2
      exact ⟨_, by rfl, zz10, zz0⟩
  ·replace c4 := Bool.eq_false_iff.mpr c4
   subst c4
   rw [if_neg (show ¬ (false = true) by decide)] at H
   simp only [Option.some.injEq, Prod.mk.injEq] at H
   obtain ⟨rfl, rfl⟩ := H
   go_enter Tryz.func32, Tryz.ntmps32
   go_wp2_with ((((with_reducible refine gate_callee (f := 65) rfl ?_); refine goesL_ (some 13) rfl rfl Tryz.func65 (by kernel_rfl) rfl #[.string a0] rfl (zz1) ?_; (with_reducible refine (R1_Valid.calls k a0 false _ A3.out).mono ?_); rintro e w20 ⟨rfl, hb⟩; refine ⟨_, rfl, ?_⟩; have n0_ := Aside0.mk (below_step (zz0) hb); clear HB; have HB := n0_; clear n0_; (clear hb))))
   go_ret2
   exact ⟨_, by rfl, zz33, zz0⟩
end Go.Proofs.YtlhhhlimjajnlaaGreat.Q
end
section
set_option linter.unusedVariables false
set_option linter.unusedSimpArgs false
namespace Go.Proofs.YtlhhhlimjajnlaaGreat.P11
open Go Go.Proofs.YtlhhhlimjajnlaaGreat Go.Proofs.YtlhhhlimjajnlaaGreat.RefE
theorem upTo_some {c : UInt8} {l b : List UInt8} (h : upTo c l = some b) : l = b ++ c :: l.drop (b.length + 1) ∧ c ∉ b := by
 induction l generalizing b with
 | nil => simp [upTo] at h
 | cons a t ih =>
  unfold upTo at h
  by_cases e : a = c
  ·rw [if_pos e] at h
   obtain rfl := Option.some.inj h
   subst e
   simp
  ·rw [if_neg e] at h
   cases hu : upTo c t with
   | none => rw [hu] at h; simp at h
   | some x =>
    rw [hu] at h
    simp at h
    subst h
    obtain ⟨h1, h2⟩ := ih hu
    refine ⟨?_, ?_⟩
    ·simp only [List.length_cons, List.drop_succ_cons, List.cons_append]
     rw [← h1]
    ·simp only [List.mem_cons, not_or]
     exact ⟨fun e' => e e'.symm, h2⟩
theorem upTo_none {c : UInt8} {l : List UInt8} (h : upTo c l = none) : c ∉ l := by
 induction l with
 | nil => simp
 | cons a t ih =>
  unfold upTo at h
  by_cases e : a = c
  ·rw [if_pos e] at h; cases h
  ·rw [if_neg e] at h
   cases hu : upTo c t with
   | none => simp only [List.mem_cons, not_or]; exact ⟨fun e' => e e'.symm, ih hu⟩
   | some x => rw [hu] at h; simp at h
theorem pre_upTo {c : UInt8} {l b p : List UInt8} (h : upTo c l = some b) (hp : c ∉ p) : p.isPrefixOf l = p.isPrefixOf b := by
 obtain ⟨h1, h2⟩ := upTo_some h
 rw [Bool.eq_iff_iff, List.isPrefixOf_iff_prefix, List.isPrefixOf_iff_prefix]
 constructor
 ·intro hpl
  rw [h1] at hpl
  by_cases hlen : p.length ≤ b.length
  ·exact List.prefix_of_prefix_length_le hpl (List.prefix_append _ _) hlen
  ·exfalso
   apply hp
   obtain ⟨t, ht⟩ := hpl
   have h3 : p[b.length]? = some c := by
    have := congrArg (fun z => z[b.length]?) ht
    rw [List.getElem?_append_left (by omega), List.getElem?_append_right (Nat.le_refl _), Nat.sub_self] at this
    simpa using this
   exact List.mem_of_getElem? h3
 ·intro hb
  rw [h1]
  exact hb.trans (List.prefix_append _ _)
theorem pre_upTo_end {c : UInt8} {l b p : List UInt8} (h : upTo c l = some b) (hp : c ∉ p) : (p ++ [c]).isPrefixOf l = decide (b = p) := by
 obtain ⟨h1, h2⟩ := upTo_some h
 rw [Bool.eq_iff_iff, List.isPrefixOf_iff_prefix, decide_eq_true_eq]
 constructor
 ·intro hpl
  have hp1 : p <+: b := by
   have := pre_upTo h hp
   rw [Bool.eq_iff_iff, List.isPrefixOf_iff_prefix, List.isPrefixOf_iff_prefix] at this
   exact this.1 ((List.prefix_append _ _).trans hpl)
  by_cases hlen : p.length = b.length
  ·exact (hp1.eq_of_length hlen).symm
  ·exfalso
   apply h2
   have hlt : p.length < b.length := by have := hp1.length_le; omega
   obtain ⟨t, ht⟩ := hpl
   have h3 : b[p.length]? = some c := by
    rw [h1] at ht
    have := congrArg (fun z => z[p.length]?) ht
    rw [List.getElem?_append_left (by simp), List.getElem?_append_right (Nat.le_refl _), Nat.sub_self, List.getElem?_append_left hlt] at this
    simpa using this.symm
   exact List.mem_of_getElem? h3
 ·rintro rfl
  rw [h1]
  exact ⟨l.drop (b.length + 1), by simp⟩
theorem pre_none {c : UInt8} {l p : List UInt8} (h : upTo c l = none) : (p ++ [c]).isPrefixOf l = false := by
 rw [Bool.eq_false_iff]
 intro hp
 rw [List.isPrefixOf_iff_prefix] at hp
 exact upTo_none h (hp.subset (by simp))
theorem upTo_drop {c : UInt8} {l b : List UInt8} (n : Nat) (h : upTo c l = some b) (hn : n ≤ b.length) : upTo c (l.drop n) = some (b.drop n) := by
 induction n generalizing l b with
 | zero => simpa using h
 | succ n ih =>
  cases l with
  | nil => simp [upTo] at h
  | cons a t =>
   unfold upTo at h
   by_cases e : a = c
   ·rw [if_pos e] at h
    obtain rfl := Option.some.inj h
    simp at hn
   ·rw [if_neg e] at h
    cases hu : upTo c t with
    | none => rw [hu] at h; simp at h
    | some x =>
     rw [hu] at h
     simp at h
     subst h
     exact ih hu (by simp at hn; omega)
theorem upTo_drop_none {c : UInt8} {l : List UInt8} (n : Nat) (h : upTo c l = none) : upTo c (l.drop n) = none := by
 cases hu : upTo c (l.drop n) with
 | none => rfl
 | some b =>
  exfalso
  apply upTo_none h
  have := (upTo_some hu).1
  have hm : c ∈ l.drop n := by rw [this]; simp
  exact List.mem_of_mem_drop hm
theorem d99_digit (c : UInt8) (base : Int) (hb : 0 < base ∧ base ≤ 16) : (¬ d99 c.toNat ≥ base ↔ (0 ≤ digitV c ∧ digitV c < base)) ∧ (0 ≤ digitV c → d99 c.toNat = digitV c) := by
 have := c.toNat_lt
 unfold d99 digitV
 refine ⟨?_, ?_⟩
 ·repeat' split
  all_goals omega
 ·repeat' split
  all_goals omega
def numRes (base : Int) (j : Nat) (l : List UInt8) (n i : Int) : Int × Int := match upTo 59 l with
 | none => (0, 0)
 | some b => if 0 < i + (b.length : Int) ∧ b.length < j then (match digitsV base n b with | some m => (m, i + (b.length : Int)) | none => (0, 0)) else (0, 0)
theorem numGo_res (base : Int) (hb : 0 < base ∧ base ≤ 16) (j : Nat) : ∀ (l : List UInt8) (n i : Int), 0 ≤ i → numGo base j l n i = numRes base j l n i := by
 induction j with
 | zero =>
  intro l n i h
  unfold numRes
  rw [numGo]
  split
  ·rfl
  ·rw [if_neg (by omega)]
 | succ j ih =>
  intro l n i hi
  cases l with
  | nil => rfl
  | cons c t =>
   rw [numGo]
   obtain ⟨hd1, hd2⟩ := d99_digit c base hb
   by_cases h59 : c = 59
   ·subst h59
    unfold numRes
    rw [show upTo 59 (59 :: t) = some [] from by unfold upTo; rw [if_pos rfl]]
    show (if (59 : UInt8) = 59 ∧ 0 < i then (n, i) else if d99 ((59 : UInt8).toNat : Int) ≥ base then (0, 0) else numGo base j t (n * base + d99 ((59 : UInt8).toNat : Int)) (i + 1)) = (if 0 < i + ((0 : Nat) : Int) ∧ 0 < j + 1 then (n, i + ((0 : Nat) : Int)) else (0, 0))
    have h99 : d99 ((59 : UInt8).toNat : Int) = 99 := rfl
    by_cases h0 : 0 < i
    ·rw [if_pos ⟨rfl, h0⟩, if_pos ⟨by omega, by omega⟩]
     congr 1
     omega
    ·rw [if_neg (show ¬ ((59 : UInt8) = 59 ∧ 0 < i) from fun h => h0 h.2), if_pos (show d99 ((59 : UInt8).toNat : Int) ≥ base by omega), if_neg (show ¬ (0 < i + ((0 : Nat) : Int) ∧ 0 < j + 1) by omega)]
   ·rw [if_neg (fun h => h59 h.1)]
    have hu : upTo 59 (c :: t) = (upTo 59 t).map (c :: ·) := by rw [upTo, if_neg h59]
    by_cases hge : d99 c.toNat ≥ base
    ·rw [if_pos hge]
     unfold numRes
     rw [hu]
     cases upTo 59 t with
     | none => rfl
     | some b =>
      simp only [Option.map_some, digitsV]
      rw [if_neg (fun h => (hd1.2 h) hge)]
      split <;> rfl
    ·have hdv := hd1.1 hge
     rw [if_neg hge, ih t _ (i + 1) (by omega), hd2 hdv.1]
     unfold numRes
     rw [hu]
     cases upTo 59 t with
     | none => rfl
     | some b =>
      simp only [Option.map_some, digitsV, List.length_cons]
      rw [if_pos hdv]
      by_cases hc : 0 < i + 1 + (b.length : Int) ∧ b.length < j
      ·rw [if_pos hc, if_pos ⟨by omega, by omega⟩]
       cases digitsV base (n * base + digitV c) b with
       | none => rfl
       | some m => simp only; congr 1; omega
      ·rw [if_neg hc, if_neg (fun h => hc ⟨by omega, by omega⟩)]
theorem allowed_point {c : Int} (h : allowedB c = true) : pointB c = true := by
 unfold allowedB at h
 simp only [Bool.or_eq_true, Bool.and_eq_true, beq_iff_eq] at h
 rcases h with ((rfl | rfl) | rfl) | h
 ·rfl
 ·rfl
 ·rfl
 ·exact h.2
theorem num_good (l : List UInt8) (i base : Int) (hb : 0 < base ∧ base ≤ 16) (h0 : 0 ≤ i) (b : List UInt8) (hu : upTo 59 (l.drop i.toNat) = some b) :
 (if (decide (0 < (numS l i base).2) && allowedB (numS l i base).1) = true then (encL (numS l i base).1, (numS l i base).2) else ([], 0)) = if numdL base b = [] then ([], 0) else (numdL base b, (b.length : Int)) := by
 have hN : numS l i base = if 0 < 0 + (b.length : Int) ∧ b.length < 9 then (match digitsV base 0 b with | some m => (m, 0 + (b.length : Int)) | none => (0, 0)) else (0, 0) := by
  unfold numS
  rw [numGo_res base hb 9 _ 0 0 (by omega)]
  unfold numRes
  rw [hu]
 unfold numdL
 by_cases hc : 0 < 0 + (b.length : Int) ∧ b.length < 9
 ·rw [if_pos hc] at hN
  rw [if_neg (show ¬ (b = [] ∨ 8 < b.length) from fun h => h.elim (fun e => by subst e; simp at hc) (fun h => by omega))]
  cases hd : digitsV base 0 b with
  | none =>
   rw [hd] at hN
   have hN' : numS l i base = (0, 0) := hN
   rw [hN']
   rfl
  | some m =>
   rw [hd] at hN
   have hN' : numS l i base = (m, (b.length : Int)) := hN.trans (by rw [Int.zero_add])
   rw [hN']
   simp only
   by_cases ha : allowedB m = true
   ·have hne : ¬ encL m = [] := fun e => by
     have := (enc_nil m).1 e
     rw [allowed_point ha] at this
     cases this
    rw [if_pos (by rw [ha]; simp; omega), if_pos ha, if_neg hne]
   ·have haf : allowedB m = false := by simpa using ha
    rw [haf]
    simp
 ·rw [if_neg hc] at hN
  rw [hN, if_pos (show b = [] ∨ 8 < b.length from by
   by_cases hbe : b = []
   ·exact .inl hbe
   ·right
    have : 0 < b.length := List.length_pos_iff.2 hbe
    omega)]
  rfl
theorem num_bad (l : List UInt8) (i base : Int) (hb : 0 < base ∧ base ≤ 16) (hu : upTo 59 (l.drop i.toNat) = none) : numS l i base = (0, 0) := by
 unfold numS
 rw [numGo_res base hb 9 _ 0 0 (by omega)]
 unfold numRes
 rw [hu]
theorem refEnt_eq (l : List UInt8) (i : Int) : refEnt l i = entP l i := by
 unfold entP
 by_cases hin : 0 ≤ i ∧ i < (l.length : Int)
 ·rw [if_pos hin]
  obtain ⟨n, rfl⟩ := Int.eq_ofNat_of_zero_le hin.1
  have hn : n < l.length := by omega
  rw [Int.toNat_natCast]
  have hbeg : ∀ t, begB l (n : Int) t = t.isPrefixOf (l.drop n) := by
   intro t
   unfold begB
   rw [show decide ((0 : Int) ≤ (n : Int) ∧ (n : Int) ≤ (l.length : Int)) = true from by simp; omega, Bool.true_and, Int.toNat_natCast]
  have hdrop : ∀ k : Nat, l.drop (((n : Int) + (k : Int)).toNat) = (l.drop n).drop k := by
   intro k
   rw [List.drop_drop]
   congr 1
  unfold refEnt
  obtain ⟨a, r, har⟩ : ∃ a r, l.drop n = a :: r := ⟨_, _, List.drop_eq_getElem_cons hn⟩
  have hr1 : ∀ k : Nat, l.drop (((n : Int) + ((k + 1 : Nat) : Int)).toNat) = r.drop k := by
   intro k
   rw [hdrop, har, List.drop_succ_cons]
  simp only [nameFrom, markFrom, hbeg, har, entNames, entMarks, List.getD_cons_zero, List.getD_cons_succ, entChars]
  by_cases ha : a = 38
  ·subst ha
   have hcons : ∀ t : List UInt8, (38 :: t).isPrefixOf (38 :: r) = t.isPrefixOf r := by intro t; simp [List.isPrefixOf]
   simp only [hcons]
   have hent : entL (38 :: r) = match upTo 59 r with | some b => if bodyL b = [] then ([], 0) else (bodyL b, (b.length : Int) + 2) | none => ([], 0) := rfl
   rw [hent]
   have e1 : ([108, 116, 59] : List UInt8) = [108, 116] ++ [59] := rfl
   have e2 : ([103, 116, 59] : List UInt8) = [103, 116] ++ [59] := rfl
   have e3 : ([97, 109, 112, 59] : List UInt8) = [97, 109, 112] ++ [59] := rfl
   have e4 : ([113, 117, 111, 116, 59] : List UInt8) = [113, 117, 111, 116] ++ [59] := rfl
   have e5 : ([97, 112, 111, 115, 59] : List UInt8) = [97, 112, 111, 115] ++ [59] := rfl
   rw [e1, e2, e3, e4, e5]
   have hg0 : goodAt l (n : Int) 0 = (decide (0 < (numS l ((n : Int) + 3) 16).2) && allowedB (numS l ((n : Int) + 3) 16).1) := rfl
   have hg1 : goodAt l (n : Int) 1 = (decide (0 < (numS l ((n : Int) + 2) 10).2) && allowedB (numS l ((n : Int) + 2) 10).1) := rfl
   have hn0 : numAt l (n : Int) 0 = numS l ((n : Int) + 3) 16 := rfl
   have hn1 : numAt l (n : Int) 1 = numS l ((n : Int) + 2) 10 := rfl
   have hl3 : l.drop ((n : Int) + 3).toNat = r.drop 2 := hr1 2
   have hl2 : l.drop ((n : Int) + 2).toNat = r.drop 1 := hr1 1
   rw [hg0, hg1, hn0, hn1]
   cases hu : upTo 59 r with
   | none =>
    simp only [pre_none hu]
    rw [num_bad l _ 16 (by decide) (by rw [hl3]; exact upTo_drop_none 2 hu), num_bad l _ 10 (by decide) (by rw [hl2]; exact upTo_drop_none 1 hu)]
    simp
   | some b =>
    simp only [pre_upTo_end hu (show (59 : UInt8) ∉ [108, 116] by decide), pre_upTo_end hu (show (59 : UInt8) ∉ [103, 116] by decide), pre_upTo_end hu (show (59 : UInt8) ∉ [97, 109, 112] by decide), pre_upTo_end hu (show (59 : UInt8) ∉ [113, 117, 111, 116] by decide), pre_upTo_end hu (show (59 : UInt8) ∉ [97, 112, 111, 115] by decide), pre_upTo hu (show (59 : UInt8) ∉ [35, 120] by decide), pre_upTo hu (show (59 : UInt8) ∉ [35] by decide)]
    by_cases p1 : [35, 120].isPrefixOf b = true
    ·obtain ⟨b', rfl⟩ := List.isPrefixOf_iff_prefix.1 p1
     have hbody : bodyL ([35, 120] ++ b') = numdL 16 b' := by unfold bodyL; rw [if_pos p1]; rfl
     rw [hbody]
     have hng := num_good l ((n : Int) + 3) 16 (by decide) (by omega) b' (by rw [hl3]; exact upTo_drop 2 hu (by simp))
     have hbad : numS l ((n : Int) + 2) 10 = (0, 0) := by
      unfold numS
      rw [hl2, numGo_res 10 (by decide) 9 _ 0 0 (by omega)]
      unfold numRes
      rw [upTo_drop 1 hu (by simp)]
      simp only
      split
      ·rfl
      ·rfl
     rw [hbad, p1]
     have p2 : [35].isPrefixOf ([35, 120] ++ b') = true := rfl
     rw [p2]
     simp only [Bool.true_and, show decide ((0 : Int) < 0) = false from rfl, Bool.false_and]
     have q1 : decide ([35, 120] ++ b' = ([108, 116] : List UInt8)) = false := by simp
     have q2 : decide ([35, 120] ++ b' = ([103, 116] : List UInt8)) = false := by simp
     have q3 : decide ([35, 120] ++ b' = ([97, 109, 112] : List UInt8)) = false := by simp
     have q4 : decide ([35, 120] ++ b' = ([113, 117, 111, 116] : List UInt8)) = false := by simp
     have q5 : decide ([35, 120] ++ b' = ([97, 112, 111, 115] : List UInt8)) = false := by simp
     rw [q1, q2, q3, q4, q5]
     simp only [if_neg (show ¬ (false = true) by decide)]
     by_cases hgood : (decide (0 < (numS l ((n : Int) + 3) 16).2) && allowedB (numS l ((n : Int) + 3) 16).1) = true
     ·rw [if_pos hgood] at hng ⊢
      by_cases hnil : numdL 16 b' = []
      ·rw [if_pos hnil] at hng
       simp only [Prod.mk.injEq] at hng
       rw [if_pos hnil]
       simp only [Bool.and_eq_true, decide_eq_true_eq] at hgood
       omega
      ·rw [if_neg hnil] at hng ⊢
       simp only [Prod.mk.injEq] at hng
       rw [hng.1, hng.2]
       simp only [List.length_append, List.length_cons, List.length_nil]
       congr 1
       omega
     ·rw [if_neg hgood] at hng ⊢
      by_cases hnil : numdL 16 b' = []
      ·rw [if_pos hnil]
      ·rw [if_neg hnil] at hng
       simp only [Prod.mk.injEq] at hng
       exact absurd hng.1.symm hnil
    ·have p1f : [35, 120].isPrefixOf b = false := Bool.eq_false_iff.2 p1
     rw [p1f]
     simp only [Bool.false_and, if_neg (show ¬ (false = true) by decide)]
     by_cases p2 : [35].isPrefixOf b = true
     ·obtain ⟨b', rfl⟩ := List.isPrefixOf_iff_prefix.1 p2
      have hbody : bodyL ([35] ++ b') = numdL 10 b' := by unfold bodyL; rw [if_neg p1, if_pos p2]; rfl
      rw [hbody, p2]
      have hng := num_good l ((n : Int) + 2) 10 (by decide) (by omega) b' (by rw [hl2]; exact upTo_drop 1 hu (by simp))
      have q1 : decide ([35] ++ b' = ([108, 116] : List UInt8)) = false := by simp
      have q2 : decide ([35] ++ b' = ([103, 116] : List UInt8)) = false := by simp
      have q3 : decide ([35] ++ b' = ([97, 109, 112] : List UInt8)) = false := by simp
      have q4 : decide ([35] ++ b' = ([113, 117, 111, 116] : List UInt8)) = false := by simp
      have q5 : decide ([35] ++ b' = ([97, 112, 111, 115] : List UInt8)) = false := by simp
      rw [q1, q2, q3, q4, q5]
      simp only [if_neg (show ¬ (false = true) by decide), Bool.true_and]
      by_cases hgood : (decide (0 < (numS l ((n : Int) + 2) 10).2) && allowedB (numS l ((n : Int) + 2) 10).1) = true
      ·rw [if_pos hgood] at hng ⊢
       by_cases hnil : numdL 10 b' = []
       ·rw [if_pos hnil] at hng
        simp only [Prod.mk.injEq] at hng
        rw [if_pos hnil]
        simp only [Bool.and_eq_true, decide_eq_true_eq] at hgood
        omega
       ·rw [if_neg hnil] at hng ⊢
        simp only [Prod.mk.injEq] at hng
        rw [hng.1, hng.2]
        simp only [List.length_append, List.length_cons, List.length_nil]
        congr 1
        omega
      ·rw [if_neg hgood] at hng ⊢
       by_cases hnil : numdL 10 b' = []
       ·rw [if_pos hnil]
       ·rw [if_neg hnil] at hng
        simp only [Prod.mk.injEq] at hng
        exact absurd hng.1.symm hnil
     ·have p2f : [35].isPrefixOf b = false := Bool.eq_false_iff.2 p2
      rw [p2f]
      have hbody : bodyL b = namedL b := by unfold bodyL; rw [if_neg p1, if_neg p2]
      rw [hbody]
      unfold namedL
      simp only [Bool.false_and, if_neg (show ¬ (false = true) by decide), decide_eq_true_eq]
      by_cases g1 : b = [108, 116]
      ·subst g1; rfl
      by_cases g2 : b = [103, 116]
      ·subst g2; rfl
      by_cases g3 : b = [97, 109, 112]
      ·subst g3; rfl
      by_cases g4 : b = [113, 117, 111, 116]
      ·subst g4; rfl
      by_cases g5 : b = [97, 112, 111, 115]
      ·subst g5; rfl
      simp only [if_neg g1, if_neg g2, if_neg g3, if_neg g4, if_neg g5, if_true]
  ·have hcons : ∀ t : List UInt8, (38 :: t).isPrefixOf (a :: r) = false := by
    intro t
    simp only [List.isPrefixOf, Bool.and_eq_false_iff]
    left
    simpa using fun e : 38 = a => ha e.symm
   simp only [hcons, Bool.false_and, if_neg (show ¬ (false = true) by decide)]
   show _ = (if a = 38 then _ else _)
   rw [if_neg ha]
 ·rw [if_neg hin]
  have hbeg : ∀ t : List UInt8, t ≠ [] → begB l i t = false := by
   intro t ht
   rw [Bool.eq_false_iff]
   intro h
   have := begB_in h
   have h2 : 0 < t.length := List.length_pos_iff.2 ht
   omega
  unfold refEnt
  simp only [nameFrom, markFrom, entNames, entMarks, List.getD_cons_zero, List.getD_cons_succ]
  rw [hbeg _ (by simp), hbeg _ (by simp), hbeg _ (by simp), hbeg _ (by simp), hbeg _ (by simp), hbeg _ (by simp), hbeg _ (by simp)]
  simp
end Go.Proofs.YtlhhhlimjajnlaaGreat.P11
end
