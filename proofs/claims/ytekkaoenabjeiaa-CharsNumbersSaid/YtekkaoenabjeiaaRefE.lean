/- Contract of the reference's Entity: it reads refEnt. -/
import Derived.Test.YtekkaoenabjeiaaP11a
import Derived.Handy
import Derived.WalkMore
import Derived.Lib.Hide
import Derived.BigQuiet
import Derived.Deep.QuietTactic
import Derived.Deep.RegionHeld3
import Derived.Deep.RegionWith
set_option linter.unusedVariables false
set_option linter.unusedSimpArgs false
namespace Go.Proofs.Ytekkaoenabjeiaa.RefE
open Go Go.RowKit Go.Proofs.Ytekkaoenabjeiaa Go.Proofs.Ytekkaoenabjeiaa.Q Go.Proofs.Ytekkaoenabjeiaa.P11 Go.Proofs.YtekkaoenabjeiaaW.PrintWords

def entNames : List (List UInt8) := [[38, 108, 116, 59], [38, 103, 116, 59], [38, 97, 109, 112, 59], [38, 113, 117, 111, 116, 59], [38, 97, 112, 111, 115, 59]]
def entChars : List UInt8 := [60, 62, 38, 34, 39]
def entMarks : List (List UInt8) := [[38, 35, 120], [38, 35]]
def entBase (j : Nat) : Int := if j = 0 then 16 else 10
def numAt (l : List UInt8) (i : Int) (j : Nat) : Int × Int := numS l (i + (entMarks.getD j []).length) (entBase j)
def goodAt (l : List UInt8) (i : Int) (j : Nat) : Bool := decide (0 < (numAt l i j).2) && allowedB (numAt l i j).1
/-- the marks from one on; 'd' are left -/
def markFrom (l : List UInt8) (i : Int) : Nat → Nat → List UInt8 × Int
  | 0, _ => ([], 0)
  | d + 1, j => if begB l i (entMarks.getD j []) && goodAt l i j then (encL (numAt l i j).1, ((entMarks.getD j []).length : Int) + (numAt l i j).2 + 1) else markFrom l i d (j + 1)
/-- the names from one on -/
def nameFrom (l : List UInt8) (i : Int) : Nat → Nat → List UInt8 × Int
  | 0, _ => markFrom l i 2 0
  | d + 1, j => if begB l i (entNames.getD j []) then ([entChars.getD j 0], (entNames.getD j []).length) else nameFrom l i d (j + 1)
def refEnt (l : List UInt8) (i : Int) : List UInt8 × Int := nameFrom l i 5 0

theorem ret_si {s : ByteArray} {k : IntKind} {a b : Int} (h : a = b) : Ending.returned (.tuple #[.string s, .int k a]) = .returned (.tuple #[.string s, .int k b]) := by rw [h]
def EntEnd (R : List UInt8 × Int) (w : World) (e : Ending) (w' : World) : Prop := e = .returned (.tuple #[.string ⟨R.1.toArray⟩, .int .i64 R.2]) ∧ Below w.heap.size w w'

theorem begins_c (s : ByteArray) (i : Int) (t : ByteArray) (b : Bool) (w : World) (hs : s.size ≤ 4294967296) (ht : t.size ≤ 4294967296) (h : begB s.data.toList i t.data.toList = b) :
    Calls Try.prog 47 #[.string s, .int .i64 i, .string t] w fun e w' => e = .returned (.bool b) ∧ Drawn0 w w' :=
  topiaryref11_begins.calls s i t b w (by rw [begins_f s i t hs ht, h])
theorem number_c (s : ByteArray) (i base n k : Int) (w : World) (hb : 0 < base ∧ base ≤ 16) (hs : s.size ≤ 4294967296) (h0 : 0 ≤ i) (h1 : i ≤ s.size) (h : numS s.data.toList i base = (n, k)) :
    Calls Try.prog 48 #[.string s, .int .i64 i, .int .i64 base] w fun e w' => e = .returned (.tuple #[.int .i64 n, .int .i64 k]) ∧ Drawn0 w w' :=
  topiaryref11_number.calls 64 s i base n k w (by rw [number_f s i base hb hs h0 h1, h])
theorem allowed_c (c : Int) (b : Bool) (w : World) (h : allowedB c = b) : Calls Try.prog 27 #[.int .i64 c] w fun e w' => e = .returned (.bool b) ∧ Drawn0 w w' :=
  topiaryref11_Allowed.calls c b w (by rw [allowed_f, h])
theorem encode_c (c : Int) (w : World) : Calls Try.prog 26 #[.int .i64 c] w fun e w' => e = .returned (.string ⟨(encL c).toArray⟩) ∧ Below w.heap.size w w' :=
  topiaryref11_Encode.calls c _ w (encode_f c)

theorem begB_in {l : List UInt8} {i : Int} {t : List UInt8} (h : begB l i t = true) : 0 ≤ i ∧ i + t.length ≤ l.length := by
  unfold begB at h
  simp only [Bool.and_eq_true, decide_eq_true_eq] at h
  have := (List.isPrefixOf_iff_prefix.1 h.2).length_le
  rw [List.length_drop] at this
  omega
theorem numGo_le (base : Int) (j : Nat) : ∀ (l : List UInt8) (n i : Int), 0 ≤ i → (numGo base j l n i).2 ≤ i + j := by
  induction j with
  | zero => intro l n i h; rw [numGo]; simp; omega
  | succ j ih =>
    intro l n i h
    cases l with
    | nil => rw [numGo]; simp; omega
    | cons c t =>
      rw [numGo]
      split
      · simp; omega
      · split
        · simp; omega
        · have := ih t (n * base + d99 c.toNat) (i + 1) (by omega)
          omega
theorem numS_le {l : List UInt8} {i base v k : Int} (h : numS l i base = (v, k)) : k ≤ 9 := by
  have := numGo_le base 9 (l.drop i.toNat) 0 0 (by omega)
  unfold numS at h
  rw [h] at this
  simpa using this
theorem quiet_at {P : Program} {f : FuncId} {args : Array Value} {w : World} {a n : Nat} {v : Value} (h : Calls P f args (w.drewN (a + n)) fun e w' => e = .returned v ∧ Drawn0 (w.drewN (a + n)) w') :
    Calls P f args (w.drewN (a + n)) fun e w'' => e = .returned v ∧ ∃ m, w'' = w.drewN (a + m) :=
  h.mono fun _ _ ⟨he, hd⟩ => by
    obtain ⟨m, hm⟩ := hd.out
    exact ⟨he, n + m, by rw [hm, World.drewN_drewN, Nat.add_assoc]⟩

theorem cell_third (w : World) (o1 o2 o4 : Obj) (cs : Array Value) (T : TypeId) (n j : Nat) (v : Value) (h : cs[j]? = some v) :
    (((((w.alloc o1).alloc o2).alloc (.cells cs T)).alloc o4).drewN n).drew.cell? ⟨w.heap.size + 1 + 1, j, none⟩ = some v := by
  show ((((w.alloc o1).alloc o2).alloc (.cells cs T)).alloc o4).cell? ⟨w.heap.size + 1 + 1, j, none⟩ = some v
  rw [World.cell?_alloc_lt _ _ _ (by simp)]
  have hb := blk_new ((w.alloc o1).alloc o2) (.cells cs T)
  have hsz : ((w.alloc o1).alloc o2).heap.size = w.heap.size + 1 + 1 := by simp
  rw [hsz] at hb
  rw [blk_cell hb, h]

set_option maxHeartbeats 4000000 in
set_option maxRecDepth 100000 in
theorem entity_c (s : ByteArray) (i : Int) (hs : s.size ≤ 4294967296) (w : World) :
    Calls Try.prog 19 #[.string s, .int .i64 i] w (EntEnd (refEnt s.data.toList i) w) := by
  obtain ⟨R, hR⟩ : ∃ R, refEnt s.data.toList i = R := ⟨_, rfl⟩
  rw [hR]
  have HR : Hid (nameFrom s.data.toList i (5 - 0) 0 = R) := Lib.hid hR
  clear hR
  go_enter Try.func19, Try.ntmps19
  go_wp2
  go_loopw [4, 5, 8] (fun r4 r5 t wr => ∃ (j n : Nat), j ≤ 5 ∧ r4 = .string ⟨#[]⟩ ∧ r5 = .int .i64 0 ∧ t = .int .i64 j ∧ wr = ((w.alloc (.cells #[.string ⟨#[38, 108, 116, 59]⟩, .string ⟨#[38, 103, 116, 59]⟩, .string ⟨#[38, 97, 109, 112, 59]⟩, .string ⟨#[38, 113, 117, 111, 116, 59]⟩, .string ⟨#[38, 97, 112, 111, 115, 59]⟩] 55)).alloc (.cells #[.string ⟨#[60]⟩, .string ⟨#[62]⟩, .string ⟨#[38]⟩, .string ⟨#[34]⟩, .string ⟨#[39]⟩] 55)).drewN n ∧ Hid (nameFrom s.data.toList i (5 - j) j = R)) (fun _ _ t wr => 5 - (intOf t).toNat)
  case atStart => exact ⟨0, 0, by omega, rfl, rfl, rfl, rfl, HR⟩
  case round =>
    clear HR
    obtain ⟨j, nd, hj, rfl, rfl, rfl, rfl, hR⟩ := hrel
    have hbel : Hid (Below w.heap.size w ((w.alloc (.cells #[.string ⟨#[38, 108, 116, 59]⟩, .string ⟨#[38, 103, 116, 59]⟩, .string ⟨#[38, 97, 109, 112, 59]⟩, .string ⟨#[38, 113, 117, 111, 116, 59]⟩, .string ⟨#[38, 97, 112, 111, 115, 59]⟩] 55)).alloc (.cells #[.string ⟨#[60]⟩, .string ⟨#[62]⟩, .string ⟨#[38]⟩, .string ⟨#[34]⟩, .string ⟨#[39]⟩] 55))) := Lib.hid (((Below.refl _ _).alloc (Nat.le_refl _) _).alloc (by simp) _)
    by_cases hj5 : j = 5
    · subst hj5
      have HR2 : Hid (markFrom s.data.toList i (2 - 0) 0 = R) := Lib.hid (by rw [← hR.out]; rfl)
      have hbel2 : Hid (Below w.heap.size w ((((w.alloc (.cells #[.string ⟨#[38, 108, 116, 59]⟩, .string ⟨#[38, 103, 116, 59]⟩, .string ⟨#[38, 97, 109, 112, 59]⟩, .string ⟨#[38, 113, 117, 111, 116, 59]⟩, .string ⟨#[38, 97, 112, 111, 115, 59]⟩] 55)).alloc (.cells #[.string ⟨#[60]⟩, .string ⟨#[62]⟩, .string ⟨#[38]⟩, .string ⟨#[34]⟩, .string ⟨#[39]⟩] 55)).alloc (.cells #[.string ⟨#[38, 35, 120]⟩, .string ⟨#[38, 35]⟩] 57)).alloc (.cells #[.int .i64 16, .int .i64 10] 48))) := Lib.hid ((hbel.out.alloc (by simp; omega) _).alloc (by simp; omega) _)
      clear hR hbel hj
      rw [show ((5 : Nat) : Int) = 5 from rfl]
      go_wp2
      go_loopw [4, 5, 12] (fun r4 r5 t wr => ∃ (j n : Nat), j ≤ 2 ∧ r4 = .string ⟨#[]⟩ ∧ r5 = .int .i64 0 ∧ t = .int .i64 j ∧ wr = ((((w.alloc (.cells #[.string ⟨#[38, 108, 116, 59]⟩, .string ⟨#[38, 103, 116, 59]⟩, .string ⟨#[38, 97, 109, 112, 59]⟩, .string ⟨#[38, 113, 117, 111, 116, 59]⟩, .string ⟨#[38, 97, 112, 111, 115, 59]⟩] 55)).alloc (.cells #[.string ⟨#[60]⟩, .string ⟨#[62]⟩, .string ⟨#[38]⟩, .string ⟨#[34]⟩, .string ⟨#[39]⟩] 55)).alloc (.cells #[.string ⟨#[38, 35, 120]⟩, .string ⟨#[38, 35]⟩] 57)).alloc (.cells #[.int .i64 16, .int .i64 10] 48)).drewN n ∧ Hid (markFrom s.data.toList i (2 - j) j = R)) (fun _ _ t wr => 2 - (intOf t).toNat)
      case atStart => exact ⟨0, nd, by omega, rfl, rfl, rfl, rfl, HR2⟩
      case round =>
        clear HR2
        obtain ⟨j, nd2, hj, rfl, rfl, rfl, rfl, hR⟩ := hrel
        by_cases hj2 : j = 2
        · subst hj2
          have hRe : R = ([], 0) := hR.out.symm
          subst hRe
          clear hR
          go_wp2
          go_ret2
          exact ⟨rfl, by repeat (first | exact hbel2.out | refine pw_below_drewN ?_ _)⟩
        · obtain rfl | rfl : j = 0 ∨ j = 1 := by omega
          · by_cases hb : begB s.data.toList i (ByteArray.mk #[38, 35, 120]).data.toList = true
            · have hin : 0 ≤ i ∧ i + 3 ≤ s.size := begB_in hb
              have hw : IntKind.i64.wrap (i + 3) = i + 3 := by rw [IntKind.wrap_i64]; omega
              obtain ⟨v, k, hnk⟩ : ∃ v k, numS s.data.toList (i + 3) 16 = (v, k) := ⟨_, _, rfl⟩
              have HN := Lib.hid hnk
              by_cases hg : (decide (0 < k) && allowedB v) = true
              · have hRe : R = (encL v, 3 + k + 1) := by
                  rw [← hR.out]
                  show (if (begB s.data.toList i [38, 35, 120] && goodAt s.data.toList i 0) = true then (encL (numAt s.data.toList i 0).1, (3 : Int) + (numAt s.data.toList i 0).2 + 1) else _) = _
                  have hna : numAt s.data.toList i 0 = (v, k) := hnk
                  have hga : goodAt s.data.toList i 0 = true := by unfold goodAt; rw [hna]; exact hg
                  rw [hga, show begB s.data.toList i [38, 35, 120] = true from hb, hna]
                  rfl
                subst hRe
                have hk0 : 0 < k := by simp at hg; exact hg.1
                have hka : allowedB v = true := by simp at hg; exact hg.2
                have hk9 : k ≤ 9 := numS_le hnk
                have HA := Lib.hid hka
                have HB := Lib.hid hb
                clear hR hb hnk hg hka hj2
                go_wp2_with (go_at_call 47; refine (begins_c s i _ true _ hs (by decide) HB.out).mono ?_; rintro e w' ⟨rfl, ⟨⟨n1, rfl⟩⟩⟩)
                go_quiet ((go_at_call 48; exact quiet_at (number_c s _ _ v k _ (by decide) hs (by omega) (by omega) HN.out)))
                go_wp2_with (go_at_call 27; refine (allowed_c v true _ HA.out).mono ?_; rintro e w' ⟨rfl, ⟨⟨n2, rfl⟩⟩⟩)
                go_region_held3 (fun W => W.cell? ⟨w.heap.size + 1 + 1, 0, none⟩ = some (.string ⟨#[38, 35, 120]⟩)) (first | exact cell_third _ _ _ _ _ _ _ _ _ rfl | exact pw_cell_below (by assumption) (by assumption) | go_keep | (refine (HB1.cell ?_).trans ?_ <;> simp; done) | (refine (HB1.cell ?_).trans ?_ <;> simp [World.cell?_alloc_some]; done)) ((go_at_call 26; refine (encode_c v _).mono ?_; rintro e w1 ⟨rfl, HB1⟩))
                go_wp2
                have hwk : IntKind.i64.wrap (IntKind.i64.wrap (3 + k) + 1) = 3 + k + 1 := by rw [IntKind.wrap_i64, IntKind.wrap_i64]; omega
                go_ret2
                exact ⟨ret_si hwk, by first | exact (show Below w.heap.size w _ from pw_below_drewN hbel2.out _).trans (Below.mono (by assumption) (by simp; omega)) | (repeat (first | exact hbel2.out | exact below_then (pw_below_drewN hbel2.out _) (by simp; omega) (by assumption) | refine pw_below_drewN ?_ _ | refine below_drew ?_))⟩
              · have hR' : Hid (markFrom s.data.toList i (2 - 1) 1 = R) := Lib.hid (by
                  rw [← hR.out]
                  show _ = (if (begB s.data.toList i [38, 35, 120] && goodAt s.data.toList i 0) = true then _ else _)
                  have hna : numAt s.data.toList i 0 = (v, k) := hnk
                  have hga : goodAt s.data.toList i 0 = false := by unfold goodAt; rw [hna]; simpa using hg
                  rw [hga, Bool.and_false, if_neg (by decide)])
                have HB := Lib.hid hb
                obtain ⟨b, hbv⟩ : ∃ b, allowedB v = b := ⟨_, rfl⟩
                have HA := Lib.hid hbv
                have hcase : (0 < k ∧ b = false) ∨ ¬ 0 < k := by
                  by_cases h0 : 0 < k
                  · refine .inl ⟨h0, ?_⟩
                    rw [← hbv]
                    simpa [h0] using hg
                  · exact .inr h0
                clear hR hb hnk hg hbv hj2
                rcases hcase with ⟨h0, rfl⟩ | h0
                · go_wp2_with (go_at_call 47; refine (begins_c s i _ true _ hs (by decide) HB.out).mono ?_; rintro e w' ⟨rfl, ⟨⟨n1, rfl⟩⟩⟩)
                  go_quiet ((go_at_call 48; exact quiet_at (number_c s _ _ v k _ (by decide) hs (by omega) (by omega) HN.out)))
                  go_wp2_with (go_at_call 27; refine (allowed_c v false _ HA.out).mono ?_; rintro e w' ⟨rfl, ⟨⟨n2, rfl⟩⟩⟩)
                  go_roundw
                  case rel => exact ⟨1, _, by omega, rfl, rfl, rfl, rfl, hR'⟩
                  case measure => simp [intOf]
                · have hd : decide (0 < k) = false := by simpa using h0
                  go_wp2_with (go_at_call 47; refine (begins_c s i _ true _ hs (by decide) HB.out).mono ?_; rintro e w' ⟨rfl, ⟨⟨n1, rfl⟩⟩⟩)
                  go_quiet ((go_at_call 48; exact quiet_at (number_c s _ _ v k _ (by decide) hs (by omega) (by omega) HN.out)))
                  go_wp2_with (go_at_call 27; refine (allowed_c v b _ HA.out).mono ?_; rintro e w' ⟨rfl, ⟨⟨n2, rfl⟩⟩⟩)
                  go_roundw
                  case rel => exact ⟨1, _, by omega, rfl, rfl, rfl, rfl, hR'⟩
                  case measure => simp [intOf]
            · have hb' : begB s.data.toList i (ByteArray.mk #[38, 35, 120]).data.toList = false := by simpa using hb
              have hR' : Hid (markFrom s.data.toList i (2 - 1) 1 = R) := Lib.hid (by
                rw [← hR.out]
                show _ = (if (begB s.data.toList i [38, 35, 120] && goodAt s.data.toList i 0) = true then _ else _)
                rw [show begB s.data.toList i [38, 35, 120] = false from hb', Bool.false_and, if_neg (by decide)])
              have HB := Lib.hid hb'
              clear hb hb' hR hj2
              go_wp2_with (go_at_call 47; refine (begins_c s i _ false _ hs (by decide) HB.out).mono ?_; rintro e w' ⟨rfl, ⟨⟨n1, rfl⟩⟩⟩)
              go_roundw
              case rel => exact ⟨1, _, by omega, rfl, rfl, rfl, rfl, hR'⟩
              case measure => simp [intOf]
          · by_cases hb : begB s.data.toList i (ByteArray.mk #[38, 35]).data.toList = true
            · have hin : 0 ≤ i ∧ i + 2 ≤ s.size := begB_in hb
              have hw : IntKind.i64.wrap (i + 2) = i + 2 := by rw [IntKind.wrap_i64]; omega
              obtain ⟨v, k, hnk⟩ : ∃ v k, numS s.data.toList (i + 2) 10 = (v, k) := ⟨_, _, rfl⟩
              have HN := Lib.hid hnk
              by_cases hg : (decide (0 < k) && allowedB v) = true
              · have hRe : R = (encL v, 2 + k + 1) := by
                  rw [← hR.out]
                  show (if (begB s.data.toList i [38, 35] && goodAt s.data.toList i 1) = true then (encL (numAt s.data.toList i 1).1, (2 : Int) + (numAt s.data.toList i 1).2 + 1) else _) = _
                  have hna : numAt s.data.toList i 1 = (v, k) := hnk
                  have hga : goodAt s.data.toList i 1 = true := by unfold goodAt; rw [hna]; exact hg
                  rw [hga, show begB s.data.toList i [38, 35] = true from hb, hna]
                  rfl
                subst hRe
                have hk0 : 0 < k := by simp at hg; exact hg.1
                have hka : allowedB v = true := by simp at hg; exact hg.2
                have hk9 : k ≤ 9 := numS_le hnk
                have HA := Lib.hid hka
                have HB := Lib.hid hb
                clear hR hb hnk hg hka hj2
                go_wp2_with (go_at_call 47; refine (begins_c s i _ true _ hs (by decide) HB.out).mono ?_; rintro e w' ⟨rfl, ⟨⟨n1, rfl⟩⟩⟩)
                go_quiet ((go_at_call 48; exact quiet_at (number_c s _ _ v k _ (by decide) hs (by omega) (by omega) HN.out)))
                go_wp2_with (go_at_call 27; refine (allowed_c v true _ HA.out).mono ?_; rintro e w' ⟨rfl, ⟨⟨n2, rfl⟩⟩⟩)
                go_region_held3 (fun W => W.cell? ⟨w.heap.size + 1 + 1, 1, none⟩ = some (.string ⟨#[38, 35]⟩)) (first | exact cell_third _ _ _ _ _ _ _ _ _ rfl | exact pw_cell_below (by assumption) (by assumption) | go_keep | (refine (HB1.cell ?_).trans ?_ <;> simp; done) | (refine (HB1.cell ?_).trans ?_ <;> simp [World.cell?_alloc_some]; done)) ((go_at_call 26; refine (encode_c v _).mono ?_; rintro e w1 ⟨rfl, HB1⟩))
                go_wp2
                have hwk : IntKind.i64.wrap (IntKind.i64.wrap (2 + k) + 1) = 2 + k + 1 := by rw [IntKind.wrap_i64, IntKind.wrap_i64]; omega
                go_ret2
                exact ⟨ret_si hwk, by first | exact (show Below w.heap.size w _ from pw_below_drewN hbel2.out _).trans (Below.mono (by assumption) (by simp; omega)) | (repeat (first | exact hbel2.out | exact below_then (pw_below_drewN hbel2.out _) (by simp; omega) (by assumption) | refine pw_below_drewN ?_ _ | refine below_drew ?_))⟩
              · have hR' : Hid (markFrom s.data.toList i (2 - 2) 2 = R) := Lib.hid (by
                  rw [← hR.out]
                  show _ = (if (begB s.data.toList i [38, 35] && goodAt s.data.toList i 1) = true then _ else _)
                  have hna : numAt s.data.toList i 1 = (v, k) := hnk
                  have hga : goodAt s.data.toList i 1 = false := by unfold goodAt; rw [hna]; simpa using hg
                  rw [hga, Bool.and_false, if_neg (by decide)])
                have HB := Lib.hid hb
                obtain ⟨b, hbv⟩ : ∃ b, allowedB v = b := ⟨_, rfl⟩
                have HA := Lib.hid hbv
                have hcase : (0 < k ∧ b = false) ∨ ¬ 0 < k := by
                  by_cases h0 : 0 < k
                  · refine .inl ⟨h0, ?_⟩
                    rw [← hbv]
                    simpa [h0] using hg
                  · exact .inr h0
                clear hR hb hnk hg hbv hj2
                rcases hcase with ⟨h0, rfl⟩ | h0
                · go_wp2_with (go_at_call 47; refine (begins_c s i _ true _ hs (by decide) HB.out).mono ?_; rintro e w' ⟨rfl, ⟨⟨n1, rfl⟩⟩⟩)
                  go_quiet ((go_at_call 48; exact quiet_at (number_c s _ _ v k _ (by decide) hs (by omega) (by omega) HN.out)))
                  go_wp2_with (go_at_call 27; refine (allowed_c v false _ HA.out).mono ?_; rintro e w' ⟨rfl, ⟨⟨n2, rfl⟩⟩⟩)
                  go_roundw
                  case rel => exact ⟨2, _, by omega, rfl, rfl, rfl, rfl, hR'⟩
                  case measure => simp [intOf]
                · have hd : decide (0 < k) = false := by simpa using h0
                  go_wp2_with (go_at_call 47; refine (begins_c s i _ true _ hs (by decide) HB.out).mono ?_; rintro e w' ⟨rfl, ⟨⟨n1, rfl⟩⟩⟩)
                  go_quiet ((go_at_call 48; exact quiet_at (number_c s _ _ v k _ (by decide) hs (by omega) (by omega) HN.out)))
                  go_wp2_with (go_at_call 27; refine (allowed_c v b _ HA.out).mono ?_; rintro e w' ⟨rfl, ⟨⟨n2, rfl⟩⟩⟩)
                  go_roundw
                  case rel => exact ⟨2, _, by omega, rfl, rfl, rfl, rfl, hR'⟩
                  case measure => simp [intOf]
            · have hb' : begB s.data.toList i (ByteArray.mk #[38, 35]).data.toList = false := by simpa using hb
              have hR' : Hid (markFrom s.data.toList i (2 - 2) 2 = R) := Lib.hid (by
                rw [← hR.out]
                show _ = (if (begB s.data.toList i [38, 35] && goodAt s.data.toList i 1) = true then _ else _)
                rw [show begB s.data.toList i [38, 35] = false from hb', Bool.false_and, if_neg (by decide)])
              have HB := Lib.hid hb'
              clear hb hb' hR hj2
              go_wp2_with (go_at_call 47; refine (begins_c s i _ false _ hs (by decide) HB.out).mono ?_; rintro e w' ⟨rfl, ⟨⟨n1, rfl⟩⟩⟩)
              go_roundw
              case rel => exact ⟨2, _, by omega, rfl, rfl, rfl, rfl, hR'⟩
              case measure => simp [intOf]
    · obtain rfl | rfl | rfl | rfl | rfl : j = 0 ∨ j = 1 ∨ j = 2 ∨ j = 3 ∨ j = 4 := by omega
      · by_cases hb : begB s.data.toList i (ByteArray.mk #[38, 108, 116, 59]).data.toList = true
        · have hRe : R = ([60], 4) := by
            rw [← hR.out]
            show (if begB s.data.toList i [38, 108, 116, 59] then _ else _) = _
            rw [if_pos hb]; rfl
          subst hRe
          clear hR
          have HB := Lib.hid hb
          clear hb
          go_wp2_with (go_at_call 47; refine (begins_c s i _ true _ hs (by decide) HB.out).mono ?_; rintro e w' ⟨rfl, ⟨⟨n1, rfl⟩⟩⟩)
          go_quiet (fail)
          go_wp2
          go_ret2
          exact ⟨rfl, by repeat (first | exact hbel.out | refine pw_below_drewN ?_ _)⟩
        · have hb' : begB s.data.toList i (ByteArray.mk #[38, 108, 116, 59]).data.toList = false := by simpa using hb
          have hR' : Hid (nameFrom s.data.toList i (5 - 1) 1 = R) := Lib.hid (by
            rw [← hR.out]
            show _ = (if begB s.data.toList i [38, 108, 116, 59] then _ else _)
            rw [if_neg hb])
          have HB := Lib.hid hb'
          clear hb hb' hR hj5
          go_wp2_with (go_at_call 47; refine (begins_c s i _ false _ hs (by decide) HB.out).mono ?_; rintro e w' ⟨rfl, ⟨⟨n1, rfl⟩⟩⟩)
          go_roundw
          case rel => exact ⟨1, _, by omega, rfl, rfl, rfl, rfl, hR'⟩
          case measure => simp [intOf]
      · by_cases hb : begB s.data.toList i (ByteArray.mk #[38, 103, 116, 59]).data.toList = true
        · have hRe : R = ([62], 4) := by
            rw [← hR.out]
            show (if begB s.data.toList i [38, 103, 116, 59] then _ else _) = _
            rw [if_pos hb]; rfl
          subst hRe
          clear hR
          have HB := Lib.hid hb
          clear hb
          go_wp2_with (go_at_call 47; refine (begins_c s i _ true _ hs (by decide) HB.out).mono ?_; rintro e w' ⟨rfl, ⟨⟨n1, rfl⟩⟩⟩)
          go_quiet (fail)
          go_wp2
          go_ret2
          exact ⟨rfl, by repeat (first | exact hbel.out | refine pw_below_drewN ?_ _)⟩
        · have hb' : begB s.data.toList i (ByteArray.mk #[38, 103, 116, 59]).data.toList = false := by simpa using hb
          have hR' : Hid (nameFrom s.data.toList i (5 - 2) 2 = R) := Lib.hid (by
            rw [← hR.out]
            show _ = (if begB s.data.toList i [38, 103, 116, 59] then _ else _)
            rw [if_neg hb])
          have HB := Lib.hid hb'
          clear hb hb' hR hj5
          go_wp2_with (go_at_call 47; refine (begins_c s i _ false _ hs (by decide) HB.out).mono ?_; rintro e w' ⟨rfl, ⟨⟨n1, rfl⟩⟩⟩)
          go_roundw
          case rel => exact ⟨2, _, by omega, rfl, rfl, rfl, rfl, hR'⟩
          case measure => simp [intOf]
      · by_cases hb : begB s.data.toList i (ByteArray.mk #[38, 97, 109, 112, 59]).data.toList = true
        · have hRe : R = ([38], 5) := by
            rw [← hR.out]
            show (if begB s.data.toList i [38, 97, 109, 112, 59] then _ else _) = _
            rw [if_pos hb]; rfl
          subst hRe
          clear hR
          have HB := Lib.hid hb
          clear hb
          go_wp2_with (go_at_call 47; refine (begins_c s i _ true _ hs (by decide) HB.out).mono ?_; rintro e w' ⟨rfl, ⟨⟨n1, rfl⟩⟩⟩)
          go_quiet (fail)
          go_wp2
          go_ret2
          exact ⟨rfl, by repeat (first | exact hbel.out | refine pw_below_drewN ?_ _)⟩
        · have hb' : begB s.data.toList i (ByteArray.mk #[38, 97, 109, 112, 59]).data.toList = false := by simpa using hb
          have hR' : Hid (nameFrom s.data.toList i (5 - 3) 3 = R) := Lib.hid (by
            rw [← hR.out]
            show _ = (if begB s.data.toList i [38, 97, 109, 112, 59] then _ else _)
            rw [if_neg hb])
          have HB := Lib.hid hb'
          clear hb hb' hR hj5
          go_wp2_with (go_at_call 47; refine (begins_c s i _ false _ hs (by decide) HB.out).mono ?_; rintro e w' ⟨rfl, ⟨⟨n1, rfl⟩⟩⟩)
          go_roundw
          case rel => exact ⟨3, _, by omega, rfl, rfl, rfl, rfl, hR'⟩
          case measure => simp [intOf]
      · by_cases hb : begB s.data.toList i (ByteArray.mk #[38, 113, 117, 111, 116, 59]).data.toList = true
        · have hRe : R = ([34], 6) := by
            rw [← hR.out]
            show (if begB s.data.toList i [38, 113, 117, 111, 116, 59] then _ else _) = _
            rw [if_pos hb]; rfl
          subst hRe
          clear hR
          have HB := Lib.hid hb
          clear hb
          go_wp2_with (go_at_call 47; refine (begins_c s i _ true _ hs (by decide) HB.out).mono ?_; rintro e w' ⟨rfl, ⟨⟨n1, rfl⟩⟩⟩)
          go_quiet (fail)
          go_wp2
          go_ret2
          exact ⟨rfl, by repeat (first | exact hbel.out | refine pw_below_drewN ?_ _)⟩
        · have hb' : begB s.data.toList i (ByteArray.mk #[38, 113, 117, 111, 116, 59]).data.toList = false := by simpa using hb
          have hR' : Hid (nameFrom s.data.toList i (5 - 4) 4 = R) := Lib.hid (by
            rw [← hR.out]
            show _ = (if begB s.data.toList i [38, 113, 117, 111, 116, 59] then _ else _)
            rw [if_neg hb])
          have HB := Lib.hid hb'
          clear hb hb' hR hj5
          go_wp2_with (go_at_call 47; refine (begins_c s i _ false _ hs (by decide) HB.out).mono ?_; rintro e w' ⟨rfl, ⟨⟨n1, rfl⟩⟩⟩)
          go_roundw
          case rel => exact ⟨4, _, by omega, rfl, rfl, rfl, rfl, hR'⟩
          case measure => simp [intOf]
      · by_cases hb : begB s.data.toList i (ByteArray.mk #[38, 97, 112, 111, 115, 59]).data.toList = true
        · have hRe : R = ([39], 6) := by
            rw [← hR.out]
            show (if begB s.data.toList i [38, 97, 112, 111, 115, 59] then _ else _) = _
            rw [if_pos hb]; rfl
          subst hRe
          clear hR
          have HB := Lib.hid hb
          clear hb
          go_wp2_with (go_at_call 47; refine (begins_c s i _ true _ hs (by decide) HB.out).mono ?_; rintro e w' ⟨rfl, ⟨⟨n1, rfl⟩⟩⟩)
          go_quiet (fail)
          go_wp2
          go_ret2
          exact ⟨rfl, by repeat (first | exact hbel.out | refine pw_below_drewN ?_ _)⟩
        · have hb' : begB s.data.toList i (ByteArray.mk #[38, 97, 112, 111, 115, 59]).data.toList = false := by simpa using hb
          have hR' : Hid (nameFrom s.data.toList i (5 - 5) 5 = R) := Lib.hid (by
            rw [← hR.out]
            show _ = (if begB s.data.toList i [38, 97, 112, 111, 115, 59] then _ else _)
            rw [if_neg hb])
          have HB := Lib.hid hb'
          clear hb hb' hR hj5
          go_wp2_with (go_at_call 47; refine (begins_c s i _ false _ hs (by decide) HB.out).mono ?_; rintro e w' ⟨rfl, ⟨⟨n1, rfl⟩⟩⟩)
          go_roundw
          case rel => exact ⟨5, _, by omega, rfl, rfl, rfl, rfl, hR'⟩
          case measure => simp [intOf]

end Go.Proofs.Ytekkaoenabjeiaa.RefE
namespace Go.Proofs.Ytekkaoenabjeiaa.X
open Go.RowKit Go.Proofs.YtekkaoenabjeiaaW.PrintWords
def topiaryref11_Entity.f (a0 : ByteArray) (a1 : Int) : Option (ByteArray × Int) := if a0.size ≤ 4294967296 then some (⟨(RefE.refEnt a0.data.toList a1).1.toArray⟩, (RefE.refEnt a0.data.toList a1).2) else none
theorem topiaryref11_Entity.calls (a0 : ByteArray) (a1 : Int) (r1 : ByteArray) (r2 : Int) (w : World) (h : topiaryref11_Entity.f a0 a1 = some (r1, r2)) :
    Calls Try.prog 19 #[.string a0, .int .i64 a1] w fun e w' => e = .returned (.tuple #[.string r1, .int .i64 r2]) ∧ Below w.heap.size w w' := by
  unfold topiaryref11_Entity.f at h
  split at h
  · rename_i hs
    simp only [Option.some.injEq, Prod.mk.injEq] at h
    obtain ⟨rfl, rfl⟩ := h
    exact RefE.entity_c a0 a1 hs w
  · cases h
end Go.Proofs.Ytekkaoenabjeiaa.X
