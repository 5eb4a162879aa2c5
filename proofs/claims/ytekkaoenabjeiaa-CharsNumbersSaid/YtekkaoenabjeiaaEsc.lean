/- Contract of chars.Escape: it writes escL. -/
import Derived.Test.YtekkaoenabjeiaaChSpec
import Derived.Test.YtekkaoenabjeiaaStr
import Derived.Test.YtekkaoenabjeiaaWWords
import Derived.Handy
import Derived.WalkMore
set_option linter.unusedVariables false
set_option linter.unusedSimpArgs false
namespace Go.Proofs.Ytekkaoenabjeiaa
open Go.RowKit

theorem num_ne (c d : UInt8) (h : ¬ c = d) : ((c.toNat : Int) == (d.toNat : Int)) = false := by
  rw [beq_eq_false_iff_ne]
  exact fun e => h (UInt8.toNat_inj.1 (by omega))
theorem escB_len (c : UInt8) : (escB c).length ≤ 6 := by
  unfold escB
  repeat' (split <;> try simp)
theorem escL_len (l : List UInt8) : (escL l).length ≤ 6 * l.length := by
  induction l with
  | nil => simp [escL]
  | cons c t ih =>
    have h : escL (c :: t) = escB c ++ escL t := by simp [escL]
    have := escB_len c
    rw [h, List.length_append, List.length_cons]
    omega
theorem escL_take (l : List UInt8) (k : Nat) (h : k < l.length) : escL (l.take (k + 1)) = escL (l.take k) ++ escB l[k] := by
  unfold escL
  rw [List.take_succ_eq_append_getElem h, List.flatMap_append]
  simp
theorem newBuilder (w : World) : Lib.IsBuilder 61 5 w.heap.size w.heap.size [] (w.alloc (.cells #[.pointer none, .slice none 0 0] 61)) :=
  .inl ⟨Nat.le_refl _, .slice none 0 0, heap_alloc_new w _, ⟨by simp, .inl ⟨rfl, rfl⟩⟩, by simp [Value.ownBlock]⟩

set_option maxHeartbeats 4000000 in
set_option maxRecDepth 100000 in
theorem escape_c (s : ByteArray) (hs : s.size ≤ 4294967296) (w : World) :
    Calls Try.prog 20 #[.string s] w fun e w' => e = .returned (.string ⟨(escL s.data.toList).toArray⟩) ∧ Below w.heap.size w w' := by
  go_enter Try.func20, Try.ntmps20
  go_wp2
  have HI : Hid (Lib.IsBuilder 61 5 w.heap.size w.heap.size (Lib.byteCells (escL (s.data.toList.take 0))) (w.alloc (.cells #[.pointer none, .slice none 0 0] 61))) := Lib.hid (newBuilder w)
  go_loopw [7] (fun t wr => ∃ k : Nat, k ≤ s.size ∧ t = .int .i64 k ∧ Hid (Lib.IsBuilder 61 5 w.heap.size w.heap.size (Lib.byteCells (escL (s.data.toList.take k))) wr) ∧ Hid (Below w.heap.size w wr)) (fun t wr => s.size - (intOf t).toNat)
  case atStart => exact ⟨0, Nat.zero_le _, rfl, HI, Lib.hid ((Below.refl _ _).alloc (Nat.le_refl _) _)⟩
  case round =>
    clear HI
    obtain ⟨k, hk, rfl, hb, hbw⟩ := hrel
    have hbsz : w.heap.size ≤ wr.heap.size := hbw.out.size
    by_cases hlt : k < s.size
    · have hlt' : k < s.data.toList.length := by rw [← Lib.size_eq]; exact hlt
      have hnext := escL_take s.data.toList k hlt'
      have hlen := escL_len (s.data.toList.take k)
      have hl2 : (s.data.toList.take k).length = k := by rw [List.length_take]; omega
      have hlen' : (Lib.byteCells (escL (s.data.toList.take k))).length ≤ 6 * k := by rw [Lib.byteCells_length]; omega
      have HL := Lib.hid hlen'
      have HN := Lib.hid hnext
      obtain ⟨c, hc⟩ : ∃ c, s.data.toList[k] = c := ⟨_, rfl⟩
      have hg : s[k]'hlt = c := by rw [← hc]; rfl
      rw [hc] at hnext
      have HN := Lib.hid hnext
      clear hnext hlen hlen' hl2 hc
      by_cases c1 : c = 38
      · subst c1
        have hn2 : Hid (Lib.byteCells (escL (s.data.toList.take (k + 1))) = Lib.byteCells (escL (s.data.toList.take k)) ++ Lib.strCells ⟨#[38, 97, 109, 112, 59]⟩) := Lib.hid (by rw [HN.out]; simp [Lib.byteCells, Lib.strCells, escB])
        go_wp2_with (go_at_call 49; refine (writeString w.heap.size w.heap.size _ _ _ hb.out ?h1 ?h2).mono ?_)
        case h1 => have := HL.out; show _ + 5 ≤ _; omega
        case h2 => exact hbsz
        rintro e w1 ⟨rfl, h1, hb1⟩
        have H1 := Lib.hid h1
        have HB1 := Lib.hid hb1
        clear h1 hb1
        go_wp2
        go_roundw
        case rel => exact ⟨k + 1, by omega, by go_num, Lib.hid (by rw [hn2.out]; exact .inr H1.out), Lib.hid (hbw.out.trans HB1.out)⟩
        case measure => simp [intOf]; omega
      by_cases c2 : c = 60
      · subst c2
        have hn2 : Hid (Lib.byteCells (escL (s.data.toList.take (k + 1))) = Lib.byteCells (escL (s.data.toList.take k)) ++ Lib.strCells ⟨#[38, 108, 116, 59]⟩) := Lib.hid (by rw [HN.out]; simp [Lib.byteCells, Lib.strCells, escB])
        go_wp2_with (go_at_call 49; refine (writeString w.heap.size w.heap.size _ _ _ hb.out ?h1 ?h2).mono ?_)
        case h1 => have := HL.out; show _ + 4 ≤ _; omega
        case h2 => exact hbsz
        rintro e w1 ⟨rfl, h1, hb1⟩
        have H1 := Lib.hid h1
        have HB1 := Lib.hid hb1
        clear h1 hb1
        go_wp2
        go_roundw
        case rel => exact ⟨k + 1, by omega, by go_num, Lib.hid (by rw [hn2.out]; exact .inr H1.out), Lib.hid (hbw.out.trans HB1.out)⟩
        case measure => simp [intOf]; omega
      by_cases c3 : c = 62
      · subst c3
        have hn2 : Hid (Lib.byteCells (escL (s.data.toList.take (k + 1))) = Lib.byteCells (escL (s.data.toList.take k)) ++ Lib.strCells ⟨#[38, 103, 116, 59]⟩) := Lib.hid (by rw [HN.out]; simp [Lib.byteCells, Lib.strCells, escB])
        go_wp2_with (go_at_call 49; refine (writeString w.heap.size w.heap.size _ _ _ hb.out ?h1 ?h2).mono ?_)
        case h1 => have := HL.out; show _ + 4 ≤ _; omega
        case h2 => exact hbsz
        rintro e w1 ⟨rfl, h1, hb1⟩
        have H1 := Lib.hid h1
        have HB1 := Lib.hid hb1
        clear h1 hb1
        go_wp2
        go_roundw
        case rel => exact ⟨k + 1, by omega, by go_num, Lib.hid (by rw [hn2.out]; exact .inr H1.out), Lib.hid (hbw.out.trans HB1.out)⟩
        case measure => simp [intOf]; omega
      by_cases c4 : c = 34
      · subst c4
        have hn2 : Hid (Lib.byteCells (escL (s.data.toList.take (k + 1))) = Lib.byteCells (escL (s.data.toList.take k)) ++ Lib.strCells ⟨#[38, 113, 117, 111, 116, 59]⟩) := Lib.hid (by rw [HN.out]; simp [Lib.byteCells, Lib.strCells, escB])
        go_wp2_with (go_at_call 49; refine (writeString w.heap.size w.heap.size _ _ _ hb.out ?h1 ?h2).mono ?_)
        case h1 => have := HL.out; show _ + 6 ≤ _; omega
        case h2 => exact hbsz
        rintro e w1 ⟨rfl, h1, hb1⟩
        have H1 := Lib.hid h1
        have HB1 := Lib.hid hb1
        clear h1 hb1
        go_wp2
        go_roundw
        case rel => exact ⟨k + 1, by omega, by go_num, Lib.hid (by rw [hn2.out]; exact .inr H1.out), Lib.hid (hbw.out.trans HB1.out)⟩
        case measure => simp [intOf]; omega
      have hn2 : Hid (Lib.byteCells (escL (s.data.toList.take (k + 1))) = Lib.byteCells (escL (s.data.toList.take k)) ++ [.int .u8 c.toNat]) := Lib.hid (by rw [HN.out]; unfold escB; rw [if_neg c1, if_neg c2, if_neg c3, if_neg c4]; simp [Lib.byteCells])
      have d1 : ((c.toNat : Int) == 38) = false := num_ne c 38 c1
      have d2 : ((c.toNat : Int) == 60) = false := num_ne c 60 c2
      have d3 : ((c.toNat : Int) == 62) = false := num_ne c 62 c3
      have d4 : ((c.toNat : Int) == 34) = false := num_ne c 34 c4
      clear c1 c2 c3 c4
      go_wp2_with (go_at_call 50; refine (writeByte w.heap.size w.heap.size _ _ _ hb.out ?h1 ?h2).mono ?_)
      case h1 => have := HL.out; omega
      case h2 => exact hbsz
      rintro e w1 ⟨rfl, h1, hb1⟩
      have H1 := Lib.hid h1
      have HB1 := Lib.hid hb1
      clear h1 hb1
      go_wp2
      go_roundw
      case rel => exact ⟨k + 1, by omega, by go_num, Lib.hid (by rw [hn2.out]; exact .inr H1.out), Lib.hid (hbw.out.trans HB1.out)⟩
      case measure => simp [intOf]; omega
    · have hk' : k = s.size := by omega
      have hfin : escL (s.data.toList.take k) = escL s.data.toList := by rw [List.take_of_length_le (by rw [← Lib.size_eq]; omega)]
      have HB := hb.out
      rw [hfin] at HB
      have HB' := Lib.hid HB
      clear HB hfin
      have hge : decide ((k : Int) < (s.size : Int)) = false := by simp; omega
      clear hk'
      go_wp2_with (go_at_call 51; refine (Try.Builder_String_any w.heap.size w.heap.size _ _ HB'.out hbsz).mono ?_)
      rintro e w1 ⟨rfl, hb1⟩
      have HB1 := Lib.hid hb1
      clear hb1
      go_wp2
      go_ret
      exact ⟨rfl, hbw.out.trans HB1.out⟩

namespace X
def chars_Escape.f (a0 : ByteArray) : Option ByteArray := if a0.size ≤ 4294967296 then some ⟨(escL a0.data.toList).toArray⟩ else none
theorem chars_Escape.calls (a0 : ByteArray) (r : ByteArray) (w : World) (h : chars_Escape.f a0 = some r) :
    Calls Try.prog 20 #[.string a0] w fun e w' => e = .returned (.string r) ∧ Below w.heap.size w w' := by
  unfold chars_Escape.f at h
  split at h
  · rename_i hs
    obtain rfl := Option.some.inj h
    exact escape_c a0 hs w
  · cases h
end X
end Go.Proofs.Ytekkaoenabjeiaa
