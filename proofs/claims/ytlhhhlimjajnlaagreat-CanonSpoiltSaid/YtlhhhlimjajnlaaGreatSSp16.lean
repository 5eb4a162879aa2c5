/- Parts of the proof of canonSpoilt_holds, kept and merged by a program of mine (wip/tools/slim.py) out of my texts: P11v LexB LexC LexD LexE LexF LexG LexI ParV P12t -/
import Derived.Test.YtlhhhlimjajnlaaGreatSSp0
import Derived.Deep.RegionWith
import Derived.Lib.IndexBytes
import Derived.Deep.RegionHeld3
import Derived.Test.YtlhhhlimjajnlaaGreatSSp14
import Derived.Test.YtlhhhlimjajnlaaGreatSSp15
import Derived.Test.YtlhhhlimjajnlaaGreatSSp5
import Derived.Test.YtlhhhlimjajnlaaGreatSSp9
import Derived.Test.YtlhhhlimjajnlaaGreatSSp10
section
set_option linter.unusedVariables false
set_option linter.unusedSimpArgs false
namespace Go.Proofs.YtlhhhlimjajnlaaGreat.P11
open Go Go.RowKit Go.Proofs.YtlhhhlimjajnlaaGreat Go.Proofs.YtlhhhlimjajnlaaGreat.Q Go.Proofs.YtlhhhlimjajnlaaGreatW.PrintWords Go.Proofs.YtlhhhlimjajnlaaGreat.X
theorem valid_at (s : ByteArray) (n : Nat) (hn : n < s.size) : validL (s.data.toList.drop n) = (decide (0 < (runeP s.data.toList n).2) && allowedB (runeP s.data.toList n).1 && validL (s.data.toList.drop (n + (runeP s.data.toList n).2.toNat))) := by
 have hp : runeP s.data.toList (n : Int) = decL (s.data.toList.drop n) := by
  unfold runeP
  rw [if_pos ⟨by omega, by rw [clen]; omega⟩, Int.toNat_natCast]
 rw [hp, cdrop_cons s n hn, valid_cons, ← cdrop_cons s n hn, List.drop_drop]
theorem valid_l0 (d : Nat) : ∀ (s : ByteArray) (k : Nat), s.size = d → s.size ≤ 4294967296 → d + 2 ≤ k → chars_Valid.l0 k s = some (validL s.data.toList) := by
 induction d using Nat.strongRecOn with
 | ind d ih =>
  intro s k hd hs hk
  obtain ⟨k, rfl⟩ : ∃ m, k = m + 2 := ⟨k - 2, by omega⟩
  rw [chars_Valid.l0]
  by_cases hlt : 0 < s.size
  ·rw [if_pos (by omega), chars_Rune.f, if_pos hs, Option.bind_some]
   have hv := valid_at s 0 hlt
   have hp : runeP s.data.toList ((0 : Nat) : Int) = decL (s.data.toList.drop 0) := by
    unfold runeP
    rw [if_pos ⟨by omega, by rw [clen]; omega⟩, Int.toNat_natCast]
   have hr := dec_range (s.data.toList.drop 0)
   rw [← hp, List.length_drop, clen] at hr
   rw [List.drop_zero, Nat.zero_add] at hv
   have e0 : ((0 : Nat) : Int) = 0 := rfl
   rw [e0] at hv hr
   rw [hv]
   by_cases h0 : (runeP s.data.toList 0).2 = 0
   ·rw [if_pos h0, h0]; rfl
   ·rw [if_neg h0, callowed_f, Option.bind_some, show decide (0 < (runeP s.data.toList 0).2) = true from by simp; omega, Bool.true_and]
    by_cases ha : allowedB (runeP s.data.toList 0).1 = true
    ·rw [if_pos ha, ha, Bool.true_and, if_pos (by omega), if_pos (by omega)]
     have hdat : (s.extract (runeP s.data.toList 0).2.toNat s.size).data.toList = s.data.toList.drop (runeP s.data.toList 0).2.toNat := by
      rw [Lib.extract_data, List.take_of_length_le (by rw [List.length_drop, clen]; exact Nat.le_refl _)]
     have hsz : (s.extract (runeP s.data.toList 0).2.toNat s.size).size = s.size - (runeP s.data.toList 0).2.toNat := by rw [Lib.size_eq, hdat, List.length_drop, clen]
     rw [← hdat]
     exact ih (s.size - (runeP s.data.toList 0).2.toNat) (by omega) _ _ hsz (by omega) (by omega)
    ·rw [if_neg ha, show allowedB (runeP s.data.toList 0).1 = false from by simpa using ha]; rfl
  ·have : s.data.toList = [] := List.eq_nil_of_length_eq_zero (by rw [clen]; omega)
   rw [if_neg (by omega), this]; rfl
theorem valid_f (s : ByteArray) (hs : s.size ≤ 4294967296) (k : Nat) : chars_Valid.f (s.size + 2 + k) s = some (validL s.data.toList) := valid_l0 s.size s _ rfl hs (by omega)
end Go.Proofs.YtlhhhlimjajnlaaGreat.P11
end
section
set_option linter.unusedVariables false
set_option linter.unusedSimpArgs false
namespace Go.Proofs.YtlhhhlimjajnlaaGreat.X
open Go.RowKit Go.Proofs.YtlhhhlimjajnlaaGreat Go.Proofs.YtlhhhlimjajnlaaGreat.Q Go.Proofs.YtlhhhlimjajnlaaGreat.P11 Go.Proofs.YtlhhhlimjajnlaaGreatW.PrintWords Go.Proofs.YtlhhhlimjajnlaaGreatW.PrintLast Go.Proofs.YtlhhhlimjajnlaaGreatW.PrintMore
variable {w0 W : World} {g : Nat} {d : ByteArray} {a : Int} {ts : List Tok} {x : Bool}
def strLen (v : Value) : Nat := match v with
 | .string s => s.size
 | _ => 0
def DecRel (s s' : ByteArray) (out : List UInt8) : Prop := s'.size ≤ s.size ∧ out.length ≤ 4 * (s.size - s'.size) ∧ dec s.data.toList = (dec s'.data.toList).map (out ++ ·)
theorem indexByte_split (l : List UInt8) (c : UInt8) : (Lib.indexByte l c < 0 → ∀ e, e ∈ l → ¬ e = c) ∧ (0 ≤ Lib.indexByte l c → (∀ e, e ∈ l.take (Lib.indexByte l c).toNat → ¬ e = c) ∧ ∃ t, l.drop (Lib.indexByte l c).toNat = c :: t) := by
 have hge := Lib.indexByte_ge l c
 refine ⟨fun h e he => ?_, fun h => ⟨fun e he => ?_, ?_⟩⟩
 ·obtain ⟨k, hk, hke⟩ := List.getElem_of_mem he
  have := Lib.indexByte_none (l := l) (c := c) (by omega) k
  rintro rfl
  exact this (by rw [List.getElem?_eq_getElem hk, hke])
 ·obtain ⟨o, ho⟩ : ∃ o : Nat, Lib.indexByte l c = o := ⟨(Lib.indexByte l c).toNat, by omega⟩
  obtain ⟨h1, h2⟩ := Lib.indexByte_some ho
  rw [ho] at he
  obtain ⟨k, hk, hke⟩ := List.getElem_of_mem he
  rw [List.length_take] at hk
  rintro rfl
  refine h2 k (by omega) ?_
  rw [List.getElem_take] at hke
  rw [List.getElem?_eq_getElem (by omega), hke]
 ·obtain ⟨o, ho⟩ : ∃ o : Nat, Lib.indexByte l c = o := ⟨(Lib.indexByte l c).toNat, by omega⟩
  obtain ⟨h1, h2⟩ := Lib.indexByte_some ho
  rw [ho]
  obtain ⟨hlt, he⟩ := List.getElem?_eq_some_iff.1 h1
  exact ⟨l.drop (o + 1), by rw [show ((o : Nat) : Int).toNat = o from by omega, List.drop_eq_getElem_cons hlt, he]⟩
theorem own_stays {w w' : World} {B e size n : Nat} {v : Value} {xs : List Value} (h : w.ownsRow B e size v n xs) (hb : Below w.heap.size w w') : w'.ownsRow B e size v n xs := by
 refine ⟨h.1, ?_⟩
 rcases h.2 with hn | ⟨g, cap, cur, rfl, hg, hgg, rest⟩
 ·exact .inl hn
 ·exact .inr ⟨g, cap, cur, rfl, hg, by rw [hb.block g (Array.getElem?_eq_some_iff.1 hgg).1]; exact hgg, rest⟩
theorem builder_stays {T e : TypeId} {B b : Nat} {bs : List Value} {w w' : World} (h : Lib.IsBuilder T e B b bs w) (hb : Below w.heap.size w w') : Lib.IsBuilder T e B b bs w' := by
 rcases h with ⟨h1, v, h2, h3, h4⟩ | ⟨h1, v, h2, h3, h4⟩
 ·exact .inl ⟨h1, v, blk_below h2 hb, own_stays h3 hb, h4⟩
 ·exact .inr ⟨h1, v, blk_below h2 hb, own_stays h3 hb, h4⟩
set_option maxHeartbeats 8000000 in
set_option maxRecDepth 100000 in
theorem decode_c (w : World) (h : Rd w0 w g d a ts x) (s : ByteArray) (hs : s.size ≤ 4294967280) :
 Calls Tryz.prog 111 #[.pointer (some ⟨g, 0, none⟩), .string s] w fun e w' => e = .returned (.string (decS s)) ∧ Rd w0 w' g d a ts (x || decBad s) := by
 have H := Lib.hid h
 have hlt := h.lt
 clear h
 go_enter Tryz.func111, Tryz.ntmps111
 go_wp2
 have HI : Hid (Lib.IsBuilder 65 5 w.heap.size w.heap.size (Lib.byteCells []) (w.alloc (.cells #[.pointer none, .slice none 0 0] 65))) := Lib.hid (newBuilder w)
 go_loopw [1] (fun t wr => ∃ s' out, t = .string s' ∧ Hid (DecRel s s' out) ∧ Hid (Lib.IsBuilder 65 5 w.heap.size w.heap.size (Lib.byteCells out) wr) ∧ Hid (Below w.heap.size w wr)) (fun t wr => strLen t)
 case atStart => exact ⟨s, [], rfl, Lib.hid ⟨Nat.le_refl _, by simp, by simp⟩, HI, Lib.hid ((Below.refl _ _).alloc (Nat.le_refl _) _)⟩
 case round =>
  clear HI
  obtain ⟨s', out, rfl, hD, hb, hbw⟩ := hrel
  have hbsz : w.heap.size ≤ wr.heap.size := hbw.out.size
  have hD1 : s'.size ≤ s.size := hD.out.1
  by_cases hE : s'.toList = []
  ·have e0 : (s'.toList == []) = true := by rw [hE]; rfl
   have e1 : (s'.toList != []) = false := by rw [hE]; rfl
   have hfin : dec s.data.toList = some out := by
    have := hD.out.2.2
    rw [Lib.toList_data] at hE
    rw [this, hE]; simp [dec_nil]
   have hS : decS s = ⟨out.toArray⟩ := by unfold decS; rw [hfin]; rfl
   have hBd : decBad s = false := by unfold decBad; rw [hfin]; rfl
   have HS := Lib.hid hS
   have HBd := Lib.hid hBd
   clear hE hfin hS hBd hD
   go_wp2_with (go_at_call 43; refine (Tryz.Builder_String_any w.heap.size w.heap.size _ _ hb.out hbsz).mono ?_)
   rintro e w1 ⟨rfl, hb1⟩
   have HB1 := Lib.hid hb1
   clear hb1
   go_wp2
   go_ret
   exact ⟨by rw [HS.out]; rfl, by rw [HBd.out, Bool.or_false]; exact H.out.below (hbw.out.trans HB1.out)⟩
  ·have e0 : (s'.toList == []) = false := beq_eq_false_iff_ne.2 hE
   have e1 : (s'.toList != []) = true := bne_iff_ne.2 hE
   obtain ⟨i, hi⟩ : ∃ i, Lib.indexByte s'.data.toList 38 = i := ⟨_, rfl⟩
   have hsp := indexByte_split s'.data.toList 38
   rw [hi] at hsp
   have hIB : ∀ W : World, Calls Tryz.prog 112 #[.string s', .int .u8 38] W fun e w' => e = .returned (.int .i64 i) ∧ Drawn0 W w' := fun W => strings_IndexByte.calls s' 38 i W (by rw [← hi]; rfl)
   have hSP := Lib.hid hsp
   clear hsp
   by_cases hn : i < 0
   ·have n0 : decide (i < 0) = true := decide_eq_true hn
    have hfin : dec s.data.toList = some (out ++ s'.data.toList) := by
     have h1 := dec_plain s'.data.toList [] (fun e he => hSP.out.1 hn e he)
     rw [List.append_nil] at h1
     rw [hD.out.2.2, h1, dec_nil]; simp
    have HS := Lib.hid (show decS s = ⟨(out ++ s'.data.toList).toArray⟩ by unfold decS; rw [hfin]; rfl)
    have HBd := Lib.hid (show decBad s = false by unfold decBad; rw [hfin]; rfl)
    have HL := Lib.hid (show (Lib.byteCells out).length ≤ 4 * s.size by have := hD.out.2.1; rw [Lib.byteCells_length]; omega)
    clear hfin hn
    go_wp2_with (first | (go_at_call 112; (with_reducible refine (hIB _).mono ?_); rintro e w' ⟨rfl, ⟨nd, rfl⟩⟩))
    go_wp2_with (go_at_call 38; refine (writeString w.heap.size w.heap.size _ _ _ (by first | exact hb.out | exact IsBuilder_drewN hb.out _ | exact IsBuilder_drew hb.out) ?h1 ?h2).mono ?_)
    case h1 => have := HL.out; omega
    case h2 => exact hbsz
    rintro e w1 ⟨rfl, h1, hb1⟩
    have H1 := Lib.hid (show Lib.IsBuilder 65 5 w.heap.size w.heap.size (Lib.byteCells (out ++ s'.data.toList)) w1 from .inr (by rw [Lib.byteCells_append, ← Lib.strCells_eq]; exact h1))
    have hB2 : Below w.heap.size w w1 := hbw.out.trans (by first | exact hb1 | exact (pw_below_drewN (Below.refl _ _) _).trans hb1 | exact (below_drew (pw_below_drewN (Below.refl _ _) _)).trans hb1)
    have HB2 := Lib.hid hB2
    have hbsz1 : w.heap.size ≤ w1.heap.size := hB2.size
    clear h1 hb1 hB2
    go_wp2_with (go_at_call 43; refine (Tryz.Builder_String_any w.heap.size w.heap.size _ _ H1.out hbsz1).mono ?_)
    rintro e w2 ⟨rfl, hb3⟩
    have HB3 := Lib.hid hb3
    clear hb3
    go_wp2
    go_ret
    exact ⟨by rw [HS.out]; rfl, by rw [HBd.out, Bool.or_false]; exact H.out.below (HB2.out.trans HB3.out)⟩
   ·have n0 : decide (i < 0) = false := decide_eq_false hn
    have hi0 : 0 ≤ i := by omega
    obtain ⟨hpre, tl, htl⟩ := hSP.out.2 hi0
    have hsz' : s'.data.toList.length = s'.size := (Lib.size_eq s').symm
    have hi1 : i < (s'.size : Int) := by
     have := congrArg List.length htl
     rw [List.length_drop, List.length_cons] at this; omega
    have hent : entP s'.data.toList i = entL (38 :: tl) := by unfold entP; rw [if_pos ⟨hi0, by omega⟩, htl]
    have hce := centity_f s' i (by omega) 0
    rw [hent] at hce
    have hok := entL_ok (38 :: tl)
    have hlen : (38 :: tl).length = s'.size - i.toNat := by rw [← htl, List.length_drop, hsz']
    rw [hlen] at hok
    have hdec : dec s'.data.toList = (dec (38 :: tl)).map (s'.data.toList.take i.toNat ++ ·) := by
     have := dec_plain (s'.data.toList.take i.toNat) (s'.data.toList.drop i.toNat) hpre
     rw [List.take_append_drop, htl] at this; exact this
    rw [dec_amp] at hdec
    obtain ⟨n, hn'⟩ : ∃ n, (entL (38 :: tl)).2 = n := ⟨_, rfl⟩
    obtain ⟨E, hE'⟩ : ∃ E, (entL (38 :: tl)).1 = E := ⟨_, rfl⟩
    rw [hn', hE'] at hok hdec hce
    have hdr : (38 :: tl).drop n.toNat = s'.data.toList.drop (i + n).toNat := by
     rw [← htl, List.drop_drop]; congr 1; have := hok.2.1; omega
    rw [hdr] at hdec
    have hn0 : 0 ≤ n := hok.2.1
    have hn1 : i + n ≤ (s'.size : Int) := by have := hok.2.2.1; omega
    have HE4 := Lib.hid hok.1
    have HDE := Lib.hid hdec
    have hEnt : ∀ W : World, Calls Tryz.prog 123 #[.string s', .int .i64 i] W fun e w' => e = .returned (.tuple #[.string ⟨E.toArray⟩, .int .i64 n]) ∧ Below W.heap.size W w' := fun W => chars_Entity.calls 20 s' i ⟨E.toArray⟩ n W hce
    have g0 : decide (0 ≤ i) = true := decide_eq_true hi0
    have g1 : decide (i ≤ (s'.size : Int)) = true := decide_eq_true (by omega)
    have g0' := eq_true hi0
    have g1' := eq_true (show i ≤ (s'.size : Int) by omega)
    have hw1 : IntKind.i64.wrap (i + n) = i + n := by unfold IntKind.wrap; simp [IntKind.bits, IntKind.signed]; omega
    have hw2 : wrap64 (i + n) = i + n := by unfold wrap64; omega
    have g2 : decide (0 ≤ i + n) = true := decide_eq_true (by omega)
    have g3 : decide (i + n ≤ (s'.size : Int)) = true := decide_eq_true hn1
    have g2' := eq_true (show 0 ≤ i + n by omega)
    have g3' := eq_true hn1
    clear hpre htl hent hce hok hlen hdec hdr hn' hE'
    have HL := Lib.hid (show (Lib.byteCells out).length ≤ 4 * s.size by have := hD.out.2.1; rw [Lib.byteCells_length]; omega)
    have hex : (s'.extract 0 i.toNat).data.toList = s'.data.toList.take i.toNat := by rw [Lib.extract_data, List.drop_zero, Nat.sub_zero]
    have HX := Lib.hid hex
    have hexs : (s'.extract 0 i.toNat).size ≤ s.size := by rw [Lib.size_eq, hex, List.length_take]; omega
    clear hex
    go_wp2_with (first | (go_at_call 112; (with_reducible refine (hIB _).mono ?_); rintro e w' ⟨rfl, ⟨nd, rfl⟩⟩) | (go_at_call 38; refine (writeString w.heap.size w.heap.size _ _ _ (by exact hb.out) ?h1 ?h2).mono ?_))
    case h1 => have := HL.out; omega
    case h2 => exact hbsz
    rintro e w1 ⟨rfl, h1, hb1⟩
    have H1 := Lib.hid (show Lib.IsBuilder 65 5 w.heap.size w.heap.size (Lib.byteCells (out ++ s'.data.toList.take i.toNat)) w1 from .inr (by rw [Lib.byteCells_append, ← HX.out, ← Lib.strCells_eq]; exact h1))
    have hB2 : Below w.heap.size w w1 := hbw.out.trans (by first | exact hb1 | exact (pw_below_drewN (Below.refl _ _) _).trans hb1 | exact (below_drew (pw_below_drewN (Below.refl _ _) _)).trans hb1)
    have HB2 := Lib.hid hB2
    have hbsz1 : w.heap.size ≤ w1.heap.size := hB2.size
    clear h1 hb1 hB2
    go_wp2_with (go_at_call 123; refine (hEnt _).mono ?_)
    rintro e w2 ⟨rfl, hb3⟩
    have H2 := Lib.hid (builder_stays H1.out hb3)
    have hB4 := below_step HB2.out hb3
    have HB4 := Lib.hid hB4
    have hbsz2 : w.heap.size ≤ w2.heap.size := hB4.size
    clear hb3 hB4 H1 HB2
    by_cases hz : n = 0
    ·have hfin : dec s.data.toList = none := by
      have := HDE.out
      rw [if_pos hz] at this
      rw [hD.out.2.2, this]; rfl
     have HS := Lib.hid (show decS s = ⟨#[]⟩ by unfold decS; rw [hfin]; rfl)
     have HBd := Lib.hid (show decBad s = true by unfold decBad; rw [hfin]; rfl)
     have HR := H.out.below HB4.out
     have hc3 := HR.c3
     have hf3 := HR.f 3
     have HR' := Lib.hid HR
     have z0 : (n == 0) = true := by rw [hz]; rfl
     clear HR hfin
     go_wp2
     go_ret
     exact ⟨by rw [HS.out]; rfl, by rw [HBd.out, Bool.or_true]; first | exact HR'.out.set3 true | exact (HR'.out.drew).set3 true | exact (HR'.out.drewN _).set3 true⟩
    ·have z0 : (n == 0) = false := beq_eq_false_iff_ne.2 hz
     have hn1' : 1 ≤ n := by omega
     have hes : (⟨E.toArray⟩ : ByteArray).size = E.length := by simp [ByteArray.size]
     have hout : (out ++ s'.data.toList.take i.toNat ++ E).length ≤ 4 * (s.size - (s'.extract (i + n).toNat s'.size).size) := by
      have h1 := hD.out.2.1
      have h2 := HE4.out
      rw [List.length_append, List.length_append, List.length_take, Lib.size_eq, Lib.size_eq, Lib.size_eq, Lib.extract_data, List.length_take, List.length_drop]
      rw [Lib.size_eq, Lib.size_eq] at h1
      have := Lib.size_eq s
      have := Lib.size_eq s'
      omega
     have hsl : (s'.extract (i + n).toNat s'.size).size < s'.size := by
      rw [Lib.size_eq, Lib.extract_data, List.length_take, List.length_drop, ← Lib.size_eq]; omega
     have hexd : (s'.extract (i + n).toNat s'.size).data.toList = s'.data.toList.drop (i + n).toNat := by
      rw [Lib.extract_data, List.take_of_length_le (by rw [List.length_drop, ← Lib.size_eq]; omega)]
     have hrel2 : DecRel s (s'.extract (i + n).toNat s'.size) (out ++ s'.data.toList.take i.toNat ++ E) := by
      refine ⟨by omega, hout, ?_⟩
      have := HDE.out
      rw [if_neg hz] at this
      rw [hD.out.2.2, this, hexd]
      cases dec (s'.data.toList.drop (i + n).toNat) <;> simp [List.append_assoc]
     have HR2 := Lib.hid hrel2
     have HSL := Lib.hid hsl
     have HES := Lib.hid hes
     have HO := Lib.hid hout
     clear hrel2 hsl hes hout
     go_wp2_with (go_at_call 38; refine (writeString w.heap.size w.heap.size _ _ _ (by exact H2.out) ?h3 ?h4).mono ?_)
     case h3 =>
      have h1 := HO.out
      have h2 := HES.out
      rw [List.length_append] at h1
      rw [Lib.byteCells_length]
      omega
     case h4 => exact hbsz2
     rintro e w3 ⟨rfl, h1, hb1⟩
     have H3 := Lib.hid (show Lib.IsBuilder 65 5 w.heap.size w.heap.size (Lib.byteCells (out ++ s'.data.toList.take i.toNat ++ E)) w3 from .inr (by rw [Lib.byteCells_append (out ++ s'.data.toList.take i.toNat)]; exact h1))
     have HB3 := Lib.hid (HB4.out.trans hb1)
     clear h1 hb1
     go_wp2
     go_roundw
     case rel => exact ⟨_, _, rfl, HR2, H3, HB3⟩
     case measure => exact HSL.out
def Step (w0 w' : World) (g : Nat) (d : ByteArray) (ts : List Tok) (r : Option (List Tok × Int)) : Prop := match r with
 | some (new, a') => Rd w0 w' g d a' (ts ++ new) false
 | none => ∃ a' ts', Rd w0 w' g d a' ts' true
def commentP (l : List UInt8) (a : Int) : Option (List Tok × Int) :=
 let body := l.drop (a.toNat + 4)
 let i := Lib.index body [45, 45]
 if i < 0 then none
 else if Lib.hasPrefix (body.drop i.toNat) [45, 45, 62] then some ([⟨7, a, a + 4 + i + 3, ⟨#[]⟩, ⟨(body.take i.toNat).toArray⟩⟩], a + 4 + i + 3) else none
set_option maxHeartbeats 8000000 in
set_option maxRecDepth 100000 in
theorem comment_c (w : World) (h : Rd w0 w g d a ts false) (hG : G w0) (hl : ts.length ≤ 1000000) (hs : d.size ≤ 4294967280) (h0 : 0 ≤ a) (h4 : a + 4 ≤ (d.size : Int)) :
 Calls Tryz.prog 79 #[.pointer (some ⟨g, 0, none⟩)] w fun e w' => e = .returned (.tuple #[]) ∧ Step w0 w' g d ts (commentP d.data.toList a) := by
 have H := Lib.hid h
 have hex : (d.extract a.toNat d.size).size = d.size - a.toNat := by rw [Lib.size_eq, Lib.extract_data, List.length_take, List.length_drop, ← Lib.size_eq]; omega
 obtain ⟨B, hB⟩ : ∃ B, (d.extract a.toNat d.size).extract 4 (d.size - a.toNat) = B := ⟨_, rfl⟩
 have hBl : B.data.toList = d.data.toList.drop (a.toNat + 4) := by
  rw [← hB, Lib.extract_data, Lib.extract_data]
  rw [List.take_of_length_le (l := d.data.toList.drop a.toNat) (by rw [List.length_drop, ← Lib.size_eq]; exact Nat.le_refl _), List.drop_drop, List.take_of_length_le (by rw [List.length_drop, ← Lib.size_eq]; omega)]
 have hBs : B.size ≤ 4294967280 := by rw [Lib.size_eq, hBl, List.length_drop, ← Lib.size_eq]; omega
 obtain ⟨m, hm⟩ := hG
 have hcell : ∀ W, Below w0.heap.size w0 W → W.cell? ⟨0, 0, none⟩ = some (.int .i64 m) := fun W hb => by
  have hlt := World.block_lt_of_cell? _ _ hm
  rw [← hm]; unfold World.cell?
  simp only [hb.block 0 hlt]
 have hIx : ∀ W, Below w0.heap.size w0 W → Calls Tryz.prog 106 #[.string B, .string ⟨#[45, 45]⟩] W fun e w' => e = .returned (.int .i64 (Lib.index B.data.toList [45, 45])) ∧ w' = W := fun W hb => Tryz.strings_Index B ⟨#[45, 45]⟩ m W (by omega) (hcell W hb)
 obtain ⟨i, hi⟩ : ∃ i, Lib.index B.data.toList [45, 45] = i := ⟨_, rfl⟩
 rw [hi] at hIx
 have hB2 : (d.extract a.toNat d.size).extract 4 (d.extract a.toNat d.size).size = B := by rw [hex, hB]
 have HIx := Lib.hid hIx
 clear hIx hcell hm hex
 have hi' : Lib.index (d.data.toList.drop (a.toNat + 4)) [45, 45] = i := by rw [← hBl]; exact hi
 by_cases hn : i < 0
 ·have n0 : decide (i < 0) = true := decide_eq_true hn
  have hS : commentP d.data.toList a = none := by unfold commentP; simp only [hi']; rw [if_pos hn]
  rw [hS]
  clear hS
  go_enter Tryz.func79, Tryz.ntmps79
  go_wp2_with (first | (go_at_call 105; (with_reducible refine (left_c _ H.out h0 (by omega)).mono ?_); rintro e w' ⟨rfl, n1, rfl⟩) | (go_at_call 106; (with_reducible refine (HIx.out _ (by first | exact H.out.bel | exact (H.out.drewN _).bel)).mono ?_); rintro e w' ⟨rfl, rfl⟩) | (go_at_call 107; (with_reducible refine (fails_c _ (by first | exact H.out | exact H.out.drewN _)).mono ?_); rintro e w' ⟨rfl, hf⟩))
  first | go_end0 | go_ret | ((try simp only [Exit.inBlock, Exit.then]); refine bodyPost_ret (results_none rfl _ _ _) rfl ?_)
  exact ⟨rfl, _, _, hf⟩
 ·have n0 : decide (i < 0) = false := decide_eq_false hn
  have hi0 : 0 ≤ i := by omega
  have hi1 : i ≤ (B.size : Int) := by rw [← hi, Lib.size_eq]; exact Lib.index_le _ _
  have e0 : decide (0 ≤ i) = true := decide_eq_true hi0
  have e1 : decide (i ≤ (B.size : Int)) = true := decide_eq_true hi1
  have e0' := eq_true hi0
  have e1' := eq_true hi1
  obtain ⟨p, hp⟩ : ∃ p, Lib.hasPrefix (B.data.toList.drop i.toNat) [45, 45, 62] = p := ⟨_, rfl⟩
  have hPx : ∀ W, Calls Tryz.prog 104 #[.string (B.extract i.toNat B.size), .string ⟨#[45, 45, 62]⟩] W fun e w' => e = .returned (.bool p) ∧ w' = W := fun W => by
   have := Tryz.strings_HasPrefix (B.extract i.toNat B.size) ⟨#[45, 45, 62]⟩ W
   rw [Lib.extract_data, List.take_of_length_le (by rw [List.length_drop, ← Lib.size_eq]; omega)] at this
   rw [← hp]; exact this
  have HPx := Lib.hid hPx
  clear hPx
  cases p with
  | false =>
   have hS : commentP d.data.toList a = none := by unfold commentP; simp only [hi']; rw [if_neg hn, ← hBl, hp]; rfl
   rw [hS]
   clear hS
   go_enter Tryz.func79, Tryz.ntmps79
   go_wp2_with (first | (go_at_call 105; (with_reducible refine (left_c _ H.out h0 (by omega)).mono ?_); rintro e w' ⟨rfl, n1, rfl⟩) | (go_at_call 106; (with_reducible refine (HIx.out _ (by first | exact H.out.bel | exact (H.out.drewN _).bel)).mono ?_); rintro e w' ⟨rfl, rfl⟩) | (go_at_call 104; (with_reducible refine (HPx.out _).mono ?_); rintro e w' ⟨rfl, rfl⟩) | (go_at_call 107; (with_reducible refine (fails_c _ (by first | exact H.out | exact H.out.drewN _)).mono ?_); rintro e w' ⟨rfl, hf⟩))
   first | go_end0 | go_ret | ((try simp only [Exit.inBlock, Exit.then]); refine bodyPost_ret (results_none rfl _ _ _) rfl ?_)
   exact ⟨rfl, _, _, hf⟩
  | true =>
   have hS : commentP d.data.toList a = some ([⟨7, a, a + 4 + i + 3, ⟨#[]⟩, B.extract 0 i.toNat⟩], a + 4 + i + 3) := by
    unfold commentP; simp only [hi']; rw [if_neg hn, ← hBl, hp]
    have : (B.extract 0 i.toNat) = ⟨(B.data.toList.take i.toNat).toArray⟩ := by
     apply ByteArray.ext; apply Array.ext'; rw [Lib.extract_data]; simp
    rw [this]; rfl
   rw [hS]
   clear hS
   go_enter Tryz.func79, Tryz.ntmps79
   go_wp2_with (first | (go_at_call 105; (with_reducible refine (left_c _ H.out h0 (by omega)).mono ?_); rintro e w' ⟨rfl, n1, rfl⟩) | (go_at_call 106; (with_reducible refine (HIx.out _ (by first | exact H.out.bel | exact (H.out.drewN _).bel)).mono ?_); rintro e w' ⟨rfl, rfl⟩) | (go_at_call 104; (with_reducible refine (HPx.out _).mono ?_); rintro e w' ⟨rfl, rfl⟩))
   have HR := H.out.drewN n1
   have hc0 := H.out.c1
   have hc1 := HR.c1
   have hc2 := HR.drew.c1
   have HR' := Lib.hid HR
   clear HR
   have hw : IntKind.i64.wrap (IntKind.i64.wrap (IntKind.i64.wrap (a + 4) + i) + 3) = a + 4 + i + 3 := by rw [IntKind.wrap_i64, IntKind.wrap_i64, IntKind.wrap_i64]; omega
   go_region_with (go_at_call 108; refine (tell_c (w0 := w0) (g := g) (d := d) (a := a) (ts := ts) (x := false) _ (H.out.drewN _) 7 a _ _ _ hl).mono ?_; rintro e w' ⟨rfl, hr⟩)
   all_goals
    go_wp2
    first | go_end0 | ((try simp only [Exit.inBlock, Exit.then]); refine bodyPost_ret (results_none rfl _ _ _) rfl ?_)
    exact ⟨rfl, hr⟩
theorem cut_le (l s : List UInt8) : (Lib.cut l s).1.length ≤ l.length := by
 unfold Lib.cut
 split <;> simp <;> omega
def plainP (l : List UInt8) (a : Int) : Option (List Tok × Int) :=
 let c := Lib.cut (l.drop (a.toNat + 9)) [93, 93, 62]
 if c.2.2 = true then some ([⟨6, a, a + 9 + (c.1.length : Int) + 3, ⟨#[]⟩, ⟨c.1.toArray⟩⟩], a + 9 + (c.1.length : Int) + 3) else none
set_option maxHeartbeats 8000000 in
set_option maxRecDepth 100000 in
theorem plain_c (w : World) (h : Rd w0 w g d a ts false) (hG : G w0) (hl : ts.length ≤ 1000000) (hs : d.size ≤ 4294967280) (h0 : 0 ≤ a) (h4 : a + 9 ≤ (d.size : Int)) :
 Calls Tryz.prog 80 #[.pointer (some ⟨g, 0, none⟩)] w fun e w' => e = .returned (.tuple #[]) ∧ Step w0 w' g d ts (plainP d.data.toList a) := by
 have H := Lib.hid h
 have hex : (d.extract a.toNat d.size).size = d.size - a.toNat := by rw [Lib.size_eq, Lib.extract_data, List.length_take, List.length_drop, ← Lib.size_eq]; omega
 obtain ⟨B, hB⟩ : ∃ B, (d.extract a.toNat d.size).extract 9 (d.size - a.toNat) = B := ⟨_, rfl⟩
 have hBl : B.data.toList = d.data.toList.drop (a.toNat + 9) := by
  rw [← hB, Lib.extract_data, Lib.extract_data]
  rw [List.take_of_length_le (l := d.data.toList.drop a.toNat) (by rw [List.length_drop, ← Lib.size_eq]; exact Nat.le_refl _), List.drop_drop, List.take_of_length_le (by rw [List.length_drop, ← Lib.size_eq]; omega)]
 have hBs : B.size ≤ 4294967280 := by rw [Lib.size_eq, hBl, List.length_drop, ← Lib.size_eq]; omega
 have hB2 : (d.extract a.toNat d.size).extract 9 (d.extract a.toNat d.size).size = B := by rw [hex, hB]
 obtain ⟨m, hm⟩ := hG
 have hcell : ∀ W, Below w0.heap.size w0 W → W.cell? ⟨0, 0, none⟩ = some (.int .i64 m) := fun W hb => by
  have hlt := World.block_lt_of_cell? _ _ hm
  rw [← hm]; unfold World.cell?
  simp only [hb.block 0 hlt]
 obtain ⟨C1, hC1⟩ : ∃ C1, (⟨(Lib.cut B.data.toList [93, 93, 62]).1.toArray⟩ : ByteArray) = C1 := ⟨_, rfl⟩
 obtain ⟨C2, hC2⟩ : ∃ C2, (⟨(Lib.cut B.data.toList [93, 93, 62]).2.1.toArray⟩ : ByteArray) = C2 := ⟨_, rfl⟩
 obtain ⟨q, hq⟩ : ∃ q, (Lib.cut B.data.toList [93, 93, 62]).2.2 = q := ⟨_, rfl⟩
 have hCx : ∀ W, Below w0.heap.size w0 W → Calls Tryz.prog 109 #[.string B, .string ⟨#[93, 93, 62]⟩] W fun e w' => e = .returned (.tuple #[.string C1, .string C2, .bool q]) ∧ ∃ n, w' = W.drewN n := fun W hb => by
  have := Tryz.strings_Cut B ⟨#[93, 93, 62]⟩ m W (by omega) (hcell W hb)
  rw [← hC1, ← hC2, ← hq]; exact this
 have HCx := Lib.hid hCx
 have hC1l : C1.data.toList = (Lib.cut B.data.toList [93, 93, 62]).1 := by rw [← hC1]
 have hC1s : C1.size ≤ B.size := by
  rw [Lib.size_eq, Lib.size_eq, hC1l]; exact cut_le _ _
 clear hCx hcell hm hex hC1 hC2
 cases q with
 | false =>
  have hS : plainP d.data.toList a = none := by unfold plainP; simp only [← hBl, hq]; rfl
  rw [hS]
  clear hS
  go_enter Tryz.func80, Tryz.ntmps80
  go_wp2_with (first | (go_at_call 105; (with_reducible refine (left_c _ H.out h0 (by omega)).mono ?_); rintro e w' ⟨rfl, n1, rfl⟩) | (go_at_call 109; (with_reducible refine (HCx.out _ (by first | exact H.out.bel | exact (H.out.drewN _).bel)).mono ?_); rintro e w' ⟨rfl, n2, rfl⟩) | (go_at_call 107; (with_reducible refine (fails_c _ (by first | exact H.out | exact H.out.drewN _)).mono ?_); rintro e w' ⟨rfl, hf⟩))
  first | go_end0 | go_ret | ((try simp only [Exit.inBlock, Exit.then]); refine bodyPost_ret (results_none rfl _ _ _) rfl ?_)
  exact ⟨rfl, _, _, hf⟩
 | true =>
  have hS : plainP d.data.toList a = some ([⟨6, a, a + 9 + (C1.size : Int) + 3, ⟨#[]⟩, C1⟩], a + 9 + (C1.size : Int) + 3) := by
   unfold plainP; simp only [← hBl, hq, ← hC1l, if_true]; rfl
  rw [hS]
  clear hS
  go_enter Tryz.func80, Tryz.ntmps80
  go_wp2_with (first | (go_at_call 105; (with_reducible refine (left_c _ H.out h0 (by omega)).mono ?_); rintro e w' ⟨rfl, n1, rfl⟩) | (go_at_call 109; (with_reducible refine (HCx.out _ (by first | exact H.out.bel | exact (H.out.drewN _).bel)).mono ?_); rintro e w' ⟨rfl, n2, rfl⟩))
  have HR := H.out.drewN n1
  have hc0 := H.out.c1
  have hc1 := HR.c1
  have hc2 := (HR.drewN n2).c1
  have hc3 := (HR.drewN n2).drew.c1
  clear HR
  have hw : IntKind.i64.wrap (IntKind.i64.wrap (IntKind.i64.wrap (a + 9) + (C1.size : Int)) + 3) = a + 9 + (C1.size : Int) + 3 := by rw [IntKind.wrap_i64, IntKind.wrap_i64, IntKind.wrap_i64]; omega
  go_region_with (go_at_call 108; refine (tell_c (w0 := w0) (g := g) (d := d) (a := a) (ts := ts) (x := false) _ (H.out.drewN _) 6 a _ _ _ hl).mono ?_; rintro e w' ⟨rfl, hr⟩)
  all_goals
   go_wp2
   first | go_end0 | ((try simp only [Exit.inBlock, Exit.then]); refine bodyPost_ret (results_none rfl _ _ _) rfl ?_)
   exact ⟨rfl, hr⟩
def textP (l : List UInt8) (a : Int) : Option (List Tok × Int) :=
 let b := (Lib.cut (l.drop a.toNat) [60]).1
 match dec b with
 | some v => some ([⟨6, a, a + (b.length : Int), ⟨#[]⟩, ⟨v.toArray⟩⟩], a + (b.length : Int))
 | none => none
set_option maxHeartbeats 8000000 in
set_option maxRecDepth 100000 in
theorem text_c (w : World) (h : Rd w0 w g d a ts false) (hG : G w0) (hl : ts.length ≤ 1000000) (hs : d.size ≤ 4294967280) (h0 : 0 ≤ a) (h4 : a ≤ (d.size : Int)) :
 Calls Tryz.prog 83 #[.pointer (some ⟨g, 0, none⟩)] w fun e w' => e = .returned (.tuple #[]) ∧ Step w0 w' g d ts (textP d.data.toList a) := by
 have H := Lib.hid h
 obtain ⟨B, hB⟩ : ∃ B, d.extract a.toNat d.size = B := ⟨_, rfl⟩
 have hBl : B.data.toList = d.data.toList.drop a.toNat := by
  rw [← hB, Lib.extract_data, List.take_of_length_le (by rw [List.length_drop, ← Lib.size_eq]; exact Nat.le_refl _)]
 have hBs : B.size ≤ d.size := by rw [Lib.size_eq, hBl, List.length_drop, ← Lib.size_eq]; omega
 obtain ⟨m, hm⟩ := hG
 have hcell : ∀ W, Below w0.heap.size w0 W → W.cell? ⟨0, 0, none⟩ = some (.int .i64 m) := fun W hb => by
  have hlt := World.block_lt_of_cell? _ _ hm
  rw [← hm]; unfold World.cell?
  simp only [hb.block 0 hlt]
 obtain ⟨C1, hC1⟩ : ∃ C1, (⟨(Lib.cut B.data.toList [60]).1.toArray⟩ : ByteArray) = C1 := ⟨_, rfl⟩
 obtain ⟨C2, hC2⟩ : ∃ C2, (⟨(Lib.cut B.data.toList [60]).2.1.toArray⟩ : ByteArray) = C2 := ⟨_, rfl⟩
 obtain ⟨q, hq⟩ : ∃ q, (Lib.cut B.data.toList [60]).2.2 = q := ⟨_, rfl⟩
 have hCx : ∀ W, Below w0.heap.size w0 W → Calls Tryz.prog 109 #[.string B, .string ⟨#[60]⟩] W fun e w' => e = .returned (.tuple #[.string C1, .string C2, .bool q]) ∧ ∃ n, w' = W.drewN n := fun W hb => by
  have := Tryz.strings_Cut B ⟨#[60]⟩ m W (by omega) (hcell W hb)
  rw [← hC1, ← hC2, ← hq]; exact this
 have HCx := Lib.hid hCx
 have hC1l : C1.data.toList = (Lib.cut B.data.toList [60]).1 := by rw [← hC1]
 have hC1s : C1.size ≤ B.size := by
  rw [Lib.size_eq, Lib.size_eq, hC1l]; exact cut_le _ _
 clear hCx hcell hm hC1 hC2
 have hS : ∀ w', Rd w0 w' g d (a + (C1.size : Int)) (ts ++ [⟨6, a, a + (C1.size : Int), ⟨#[]⟩, decS C1⟩]) (false || decBad C1) → Step w0 w' g d ts (textP d.data.toList a) := by
  intro w' hr
  unfold textP
  simp only [← hBl, ← hC1l]
  cases hd : dec C1.data.toList with
  | none =>
   have : decBad C1 = true := by unfold decBad; rw [hd]; rfl
   rw [this] at hr
   exact ⟨_, _, hr⟩
  | some v =>
   have hb : decBad C1 = false := by unfold decBad; rw [hd]; rfl
   have hv : decS C1 = ⟨v.toArray⟩ := by unfold decS; rw [hd]; rfl
   rw [hb, hv] at hr
   exact hr
 have HS := Lib.hid hS
 clear hS
 go_enter Tryz.func83, Tryz.ntmps83
 go_wp2_with (first | (go_at_call 105; (with_reducible refine (left_c _ H.out h0 (by omega)).mono ?_); rintro e w' ⟨rfl, n1, rfl⟩) | (go_at_call 109; (with_reducible refine (HCx.out _ (by first | exact H.out.bel | exact (H.out.drewN _).bel)).mono ?_); rintro e w' ⟨rfl, n2, rfl⟩))
 have HR := H.out.drewN n1
 have hc0 := H.out.c1
 have hc1 := HR.c1
 have hc2 := (HR.drewN n2).c1
 have hc3 := (HR.drewN n2).drew.c1
 clear HR
 have hw : IntKind.i64.wrap (a + (C1.size : Int)) = a + (C1.size : Int) := zz15
 go_region_with (first | (go_at_call 111; refine (decode_c (w0 := w0) (g := g) (d := d) (a := a) (ts := ts) (x := false) _ (H.out.drewN _) C1 (by omega)).mono ?_; rintro e w' ⟨rfl, hr⟩; have hc8 := hr.c1) | (go_at_call 108; refine (tell_c (w0 := w0) (g := g) (d := d) (a := a) (ts := ts) (x := false || decBad C1) _ (by assumption) 6 a _ _ _ hl).mono ?_; rintro e w' ⟨rfl, ht⟩))
 all_goals
  go_wp2
  first | go_end0 | ((try simp only [Exit.inBlock, Exit.then]); refine bodyPost_ret (results_none rfl _ _ _) rfl ?_)
  exact ⟨rfl, HS.out _ ht⟩
theorem takeWhile_le {α : Type} (p : α → Bool) (l : List α) : (l.takeWhile p).length ≤ l.length := by
 induction l with
 | nil => simp
 | cons c t ih => rw [List.takeWhile_cons]; split <;> simp <;> omega
theorem skipP_in (l : List UInt8) (i : Int) (h0 : 0 ≤ i) (h1 : i ≤ l.length) : i ≤ skipP l i ∧ skipP l i ≤ l.length := by
 unfold skipP
 split
 ·have := takeWhile_le spaceB (l.drop i.toNat)
  rw [List.length_drop] at this
  omega
 ·omega
theorem nameLen_le (l : List UInt8) : nameLen l ≤ l.length := by
 cases l with
 | nil => simp [nameLen]
 | cons c t =>
  have := takeWhile_le (fun d => nameB d || moreB d) t
  show (if nameB c then 1 + (t.takeWhile fun d => nameB d || moreB d).length else 0) ≤ (c :: t).length
  simp only [List.length_cons]
  split <;> omega
theorem nameEndP_in (l : List UInt8) (i : Int) (h0 : 0 ≤ i) (h1 : i ≤ l.length) : i ≤ nameEndP l i ∧ nameEndP l i ≤ l.length := by
 unfold nameEndP
 split
 ·have := nameLen_le (l.drop i.toNat)
  rw [List.length_drop] at this
  omega
 ·omega
theorem stands_room (d : ByteArray) (i : Int) (c : UInt8) (h0 : 0 ≤ i) (h : standsB d i ⟨#[c]⟩ = true) : i < (d.size : Int) := by
 unfold standsB Lib.hasPrefix at h
 rw [Lib.size_eq]
 by_cases hlt : i < (d.data.toList.length : Int)
 ·exact hlt
 ·rw [List.drop_of_length_le (by omega)] at h
  simp at h
def partB (d : ByteArray) (i j : Int) : ByteArray := d.extract i.toNat j.toNat
def closingP (d : ByteArray) (a : Int) : Option (List Tok × Int) :=
 let l := d.data.toList
 let e := nameEndP l (a + 2)
 let t := skipP l e
 if e = a + 2 then none
 else if standsB d t ⟨#[62]⟩ = true then some ([⟨5, a, t + 1, partB d (a + 2) e, ⟨#[]⟩⟩], t + 1) else none
set_option maxHeartbeats 8000000 in
set_option maxRecDepth 100000 in
theorem closing_c (w : World) (h : Rd w0 w g d a ts false) (hl : ts.length ≤ 1000000) (hs : d.size ≤ 4294967280) (h0 : 0 ≤ a) (h4 : a + 2 ≤ (d.size : Int)) :
 Calls Tryz.prog 81 #[.pointer (some ⟨g, 0, none⟩)] w fun e w' => e = .returned (.tuple #[]) ∧ Step w0 w' g d ts (closingP d a) := by
 have H := Lib.hid h
 have hsz : d.data.toList.length = d.size := (Lib.size_eq d).symm
 obtain ⟨E, hE⟩ : ∃ E, nameEndP d.data.toList (a + 2) = E := ⟨_, rfl⟩
 obtain ⟨T, hT⟩ : ∃ T, skipP d.data.toList E = T := ⟨_, rfl⟩
 have hE1 := nameEndP_in d.data.toList (a + 2) (by omega) (by omega)
 rw [hE] at hE1
 have hT1 := skipP_in d.data.toList E (by omega) (by omega)
 rw [hT] at hT1
 have hN : ∀ W, Calls Tryz.prog 76 #[.string d, .int .i64 (a + 2)] W fun e w' => e = .returned (.int .i64 E) ∧ Below W.heap.size W w' := fun W => chars_NameEnd.calls d (a + 2) E W (by unfold chars_NameEnd.f; rw [if_pos (by omega), hE])
 have hK : ∀ W, Calls Tryz.prog 59 #[.string d, .int .i64 E] W fun e w' => e = .returned (.int .i64 T) ∧ Below W.heap.size W w' := fun W => chars_Skip.calls d E T W (by unfold chars_Skip.f; rw [if_pos (by omega), hT])
 have hP : closingP d a = if E = a + 2 then none else if standsB d T ⟨#[62]⟩ = true then some ([⟨5, a, T + 1, partB d (a + 2) E, ⟨#[]⟩⟩], T + 1) else none := by unfold closingP; simp only [hE, hT]
 have hc0 := h.c0
 have hc1 := h.c1
 have hw : IntKind.i64.wrap (a + 2) = a + 2 := zz15
 have hw2 : IntKind.i64.wrap (T + 1) = T + 1 := zz15
 rw [hP]
 clear hP
 clear h hE hT
 by_cases c1 : E = a + 2
 ·rw [if_pos c1]
  have b1 : (E == a + 2) = true := by rw [c1]; exact beq_self_eq_true _
  have b2 := eq_true c1
  clear c1
  go_enter Tryz.func81, Tryz.ntmps81
  go_wp2_with (first | (go_at_call 76; (with_reducible refine (hN _).mono ?_); rintro e w1 ⟨rfl, hb_⟩; have H1 := Lib.hid (show Rd w0 w1 g d a ts false from by first | exact H.out.below hb_ | exact (H.out.drewN _).below hb_); have hd0 := H1.out.c0; have hd1 := H1.out.c1; clear hb_) | (go_at_call 59; (with_reducible refine (hK _).mono ?_); rintro e w2 ⟨rfl, hb_⟩; have H2 := Lib.hid (show Rd w0 w2 g d a ts false from by first | exact H1.out.below hb_ | exact (H1.out.drewN _).below hb_); have he0 := H2.out.c0; have he1 := H2.out.c1; clear hb_) | (go_at_call 107; (with_reducible refine (fails_c _ (by first | exact H2.out | exact H2.out.drewN _)).mono ?_); rintro e w3 ⟨rfl, hf⟩))
  first | go_end0 | go_ret | ((try simp only [Exit.inBlock, Exit.then]); refine bodyPost_ret (results_none rfl _ _ _) rfl ?_)
  exact ⟨rfl, _, _, hf⟩
 rw [if_neg c1]
 have b1 : (E == a + 2) = false := beq_eq_false_iff_ne.2 c1
 have b2 := eq_false c1
 clear c1
 have hroom := stands_room d T 62 (by omega)
 obtain ⟨s, hS⟩ : ∃ s, standsB d T ⟨#[62]⟩ = s := ⟨_, rfl⟩
 rw [hS] at hroom ⊢
 have HS := Lib.hid hS
 cases s with
 | false =>
  rw [if_neg (by decide)]
  clear hroom
  go_enter Tryz.func81, Tryz.ntmps81
  go_wp2_with (first | (go_at_call 76; (with_reducible refine (hN _).mono ?_); rintro e w1 ⟨rfl, hb_⟩; have H1 := Lib.hid (show Rd w0 w1 g d a ts false from by first | exact H.out.below hb_ | exact (H.out.drewN _).below hb_); have hd0 := H1.out.c0; have hd1 := H1.out.c1; clear hb_) | (go_at_call 59; (with_reducible refine (hK _).mono ?_); rintro e w2 ⟨rfl, hb_⟩; have H2 := Lib.hid (show Rd w0 w2 g d a ts false from by first | exact H1.out.below hb_ | exact (H1.out.drewN _).below hb_); have he0 := H2.out.c0; have he1 := H2.out.c1; clear hb_) | (go_at_call 78; (with_reducible refine (stands_c _ (by first | exact H2.out | exact H2.out.drewN _) T _ (by omega)).mono ?_); rintro e w' ⟨rfl, n1, rfl⟩) | (go_at_call 107; (with_reducible refine (fails_c _ (by first | exact H2.out | exact H2.out.drewN _)).mono ?_); rintro e w3 ⟨rfl, hf⟩))
  first | go_end0 | go_ret | ((try simp only [Exit.inBlock, Exit.then]); refine bodyPost_ret (results_none rfl _ _ _) rfl ?_)
  exact ⟨rfl, _, _, hf⟩
 | true =>
  rw [if_pos rfl]
  have hroom := hroom rfl
  go_enter Tryz.func81, Tryz.ntmps81
  go_wp2_with (first | (go_at_call 76; (with_reducible refine (hN _).mono ?_); rintro e w1 ⟨rfl, hb_⟩; have H1 := Lib.hid (show Rd w0 w1 g d a ts false from by first | exact H.out.below hb_ | exact (H.out.drewN _).below hb_); have hd0 := H1.out.c0; have hd1 := H1.out.c1; clear hb_) | (go_at_call 59; (with_reducible refine (hK _).mono ?_); rintro e w2 ⟨rfl, hb_⟩; have H2 := Lib.hid (show Rd w0 w2 g d a ts false from by first | exact H1.out.below hb_ | exact (H1.out.drewN _).below hb_); have he0 := H2.out.c0; have he1 := H2.out.c1; clear hb_) | (go_at_call 78; (with_reducible refine (stands_c _ (by first | exact H2.out | exact H2.out.drewN _) T _ (by omega)).mono ?_); rintro e w' ⟨rfl, n1, rfl⟩))
  have HR := H2.out.drewN n1
  have hx0 := HR.c0
  have hx1 := HR.c1
  have hy0 := HR.drew.c0
  have hy1 := HR.drew.c1
  clear HR
  have g0 : decide (0 ≤ a + 2) = true := decide_eq_true (by omega)
  have g1 : decide (a + 2 ≤ E) = true := decide_eq_true (by omega)
  have g2 : decide (E ≤ (d.size : Int)) = true := decide_eq_true (by omega)
  have g0' := eq_true (show 0 ≤ a + 2 by omega)
  have g1' := eq_true (show a + 2 ≤ E by omega)
  have g2' := eq_true (show E ≤ (d.size : Int) by omega)
  go_region_with (go_at_call 108; refine (tell_c (w0 := w0) (g := g) (d := d) (a := a) (ts := ts) (x := false) _ (H2.out.drewN _) 5 a _ _ _ hl).mono ?_; rintro e w' ⟨rfl, hr⟩)
  all_goals
   go_wp2
   first | go_end0 | ((try simp only [Exit.inBlock, Exit.then]); refine bodyPost_ret (results_none rfl _ _ _) rfl ?_)
   exact ⟨rfl, hr⟩
def attrP (d : ByteArray) (a : Int) : Option (List Tok × Int) :=
 let l := d.data.toList
 let F := skipP l a
 let E := nameEndP l F
 let Q := skipP l E
 let O := skipP l (Q + 1)
 let c := Lib.cut (l.drop (O + 1).toNat) (partB d O (O + 1)).data.toList
 if F = a then none
 else if E = F then none
 else if standsB d Q ⟨#[61]⟩ = false then none
 else if standsB d O ⟨#[34]⟩ = false ∧ standsB d O ⟨#[39]⟩ = false then none
 else if c.2.2 = false then none
 else if 0 ≤ Lib.indexByte c.1 60 then none
 else match dec c.1 with
  | some v => some ([⟨2, F, O + (c.1.length : Int) + 2, partB d F E, ⟨v.toArray⟩⟩], O + (c.1.length : Int) + 2)
  | none => none
set_option maxHeartbeats 16000000 in
set_option maxRecDepth 100000 in
theorem attr_c (w : World) (h : Rd w0 w g d a ts false) (hG : G w0) (hl : ts.length ≤ 1000000) (hs : d.size ≤ 4294967200) (h0 : 0 ≤ a) (h4 : a ≤ (d.size : Int)) :
 Calls Tryz.prog 110 #[.pointer (some ⟨g, 0, none⟩)] w fun e w' => e = .returned (.tuple #[]) ∧ Step w0 w' g d ts (attrP d a) := by
 have H := Lib.hid h
 have hsz : d.data.toList.length = d.size := (Lib.size_eq d).symm
 obtain ⟨F, hF⟩ : ∃ F, skipP d.data.toList a = F := ⟨_, rfl⟩
 obtain ⟨E, hE⟩ : ∃ E, nameEndP d.data.toList F = E := ⟨_, rfl⟩
 obtain ⟨Q, hQ⟩ : ∃ Q, skipP d.data.toList E = Q := ⟨_, rfl⟩
 obtain ⟨O, hO⟩ : ∃ O, skipP d.data.toList (Q + 1) = O := ⟨_, rfl⟩
 have hF1 := skipP_in d.data.toList a (by omega) (by omega)
 rw [hF] at hF1
 have hE1 := nameEndP_in d.data.toList F (by omega) (by omega)
 rw [hE] at hE1
 have hQ1 := skipP_in d.data.toList E (by omega) (by omega)
 rw [hQ] at hQ1
 have hK0 : ∀ W, Calls Tryz.prog 59 #[.string d, .int .i64 a] W fun e w' => e = .returned (.int .i64 F) ∧ Below W.heap.size W w' := fun W => chars_Skip.calls d a F W (by unfold chars_Skip.f; rw [if_pos (by omega), hF])
 have hN : ∀ W, Calls Tryz.prog 76 #[.string d, .int .i64 F] W fun e w' => e = .returned (.int .i64 E) ∧ Below W.heap.size W w' := fun W => chars_NameEnd.calls d F E W (by unfold chars_NameEnd.f; rw [if_pos (by omega), hE])
 have hKE : ∀ W, Calls Tryz.prog 59 #[.string d, .int .i64 E] W fun e w' => e = .returned (.int .i64 Q) ∧ Below W.heap.size W w' := fun W => chars_Skip.calls d E Q W (by unfold chars_Skip.f; rw [if_pos (by omega), hQ])
 have hKO : ∀ W, Calls Tryz.prog 59 #[.string d, .int .i64 (Q + 1)] W fun e w' => e = .returned (.int .i64 O) ∧ Below W.heap.size W w' := fun W => chars_Skip.calls d (Q + 1) O W (by unfold chars_Skip.f; rw [if_pos (by omega), hO])
 obtain ⟨P, hP⟩ : ∃ P, attrP d a = P := ⟨_, rfl⟩
 rw [hP]
 unfold attrP at hP
 simp only [hF, hE, hQ, hO] at hP
 have hc0 := h.c0
 have hc1 := h.c1
 have hx0 := h.drew.c0
 have hx1 := h.drew.c1
 have hw : IntKind.i64.wrap (Q + 1) = Q + 1 := zz15
 clear h
 by_cases c1 : F = a
 ·rw [if_pos c1] at hP
  subst hP
  have b1 : (F == a) = true := by rw [c1]; exact beq_self_eq_true _
  have b2 := eq_true c1
  clear c1
  go_enter Tryz.func110, Tryz.ntmps110
  go_wp2
  go_region_held3 (fun W => W.cell? ⟨g, 0, none⟩ = some (.string d) ∧ W.cell? ⟨g, 1, none⟩ = some (.int .i64 a)) (first | exact ⟨by assumption, by assumption⟩ | go_keep) ((go_at_call 59; (with_reducible refine (hK0 _).mono ?_); rintro e w1 ⟨rfl, hb_⟩; have H1 := Lib.hid (show Rd w0 w1 g d a ts false from by first | exact H.out.below hb_ | exact (H.out.drewN _).below hb_ | exact (H.out.drew).below hb_); have hd0 := H1.out.c0; have hd1 := H1.out.c1; clear hb_))
  go_wp2_with (first | (go_at_call 76; (with_reducible refine (hN _).mono ?_); rintro e w2 ⟨rfl, hb_⟩; have H2 := Lib.hid (show Rd w0 w2 g d a ts false from by first | exact H1.out.below hb_ | exact (H1.out.drewN _).below hb_ | exact (H1.out.drew).below hb_); have he0 := H2.out.c0; have he1 := H2.out.c1; clear hb_) | (go_at_call 59; (with_reducible refine (hKE _).mono ?_); rintro e w3 ⟨rfl, hb_⟩; have H3 := Lib.hid (show Rd w0 w3 g d a ts false from by first | exact H2.out.below hb_ | exact (H2.out.drewN _).below hb_ | exact (H2.out.drew).below hb_); have hf0 := H3.out.c0; have hf1 := H3.out.c1; clear hb_) | (go_at_call 107; (with_reducible refine (fails_c _ (zz26)).mono ?_); rintro e w' ⟨rfl, hf_⟩))
  first | go_end0 | go_ret | ((try simp only [Exit.inBlock, Exit.then]); refine bodyPost_ret (results_none rfl _ _ _) rfl ?_)
  exact ⟨rfl, _, _, hf_⟩
 rw [if_neg c1] at hP
 have b1 : (F == a) = false := beq_eq_false_iff_ne.2 c1
 have b2 := eq_false c1
 clear c1
 by_cases c2 : E = F
 ·rw [if_pos c2] at hP
  subst hP
  have b3 : (E == F) = true := by rw [c2]; exact beq_self_eq_true _
  have b4 := eq_true c2
  clear c2
  go_enter Tryz.func110, Tryz.ntmps110
  go_wp2
  go_region_held3 (fun W => W.cell? ⟨g, 0, none⟩ = some (.string d) ∧ W.cell? ⟨g, 1, none⟩ = some (.int .i64 a)) (first | exact ⟨by assumption, by assumption⟩ | go_keep) ((go_at_call 59; (with_reducible refine (hK0 _).mono ?_); rintro e w1 ⟨rfl, hb_⟩; have H1 := Lib.hid (show Rd w0 w1 g d a ts false from by first | exact H.out.below hb_ | exact (H.out.drewN _).below hb_ | exact (H.out.drew).below hb_); have hd0 := H1.out.c0; have hd1 := H1.out.c1; clear hb_))
  go_wp2_with (first | (go_at_call 76; (with_reducible refine (hN _).mono ?_); rintro e w2 ⟨rfl, hb_⟩; have H2 := Lib.hid (show Rd w0 w2 g d a ts false from by first | exact H1.out.below hb_ | exact (H1.out.drewN _).below hb_ | exact (H1.out.drew).below hb_); have he0 := H2.out.c0; have he1 := H2.out.c1; clear hb_) | (go_at_call 59; (with_reducible refine (hKE _).mono ?_); rintro e w3 ⟨rfl, hb_⟩; have H3 := Lib.hid (show Rd w0 w3 g d a ts false from by first | exact H2.out.below hb_ | exact (H2.out.drewN _).below hb_ | exact (H2.out.drew).below hb_); have hf0 := H3.out.c0; have hf1 := H3.out.c1; clear hb_) | (go_at_call 107; (with_reducible refine (fails_c _ (zz26)).mono ?_); rintro e w' ⟨rfl, hf_⟩))
  first | go_end0 | go_ret | ((try simp only [Exit.inBlock, Exit.then]); refine bodyPost_ret (results_none rfl _ _ _) rfl ?_)
  exact ⟨rfl, _, _, hf_⟩
 rw [if_neg c2] at hP
 have b3 : (E == F) = false := beq_eq_false_iff_ne.2 c2
 have b4 := eq_false c2
 clear c2
 have hroom := stands_room d Q 61 (by omega)
 obtain ⟨s1, hS1⟩ : ∃ s, standsB d Q ⟨#[61]⟩ = s := ⟨_, rfl⟩
 rw [hS1] at hroom hP
 have HS1 := Lib.hid hS1
 cases s1 with
 | false =>
  rw [if_pos rfl] at hP
  subst hP
  clear hroom
  go_enter Tryz.func110, Tryz.ntmps110
  go_wp2
  go_region_held3 (fun W => W.cell? ⟨g, 0, none⟩ = some (.string d) ∧ W.cell? ⟨g, 1, none⟩ = some (.int .i64 a)) (first | exact ⟨by assumption, by assumption⟩ | go_keep) ((go_at_call 59; (with_reducible refine (hK0 _).mono ?_); rintro e w1 ⟨rfl, hb_⟩; have H1 := Lib.hid (show Rd w0 w1 g d a ts false from by first | exact H.out.below hb_ | exact (H.out.drewN _).below hb_ | exact (H.out.drew).below hb_); have hd0 := H1.out.c0; have hd1 := H1.out.c1; clear hb_))
  go_wp2_with (first | (go_at_call 76; (with_reducible refine (hN _).mono ?_); rintro e w2 ⟨rfl, hb_⟩; have H2 := Lib.hid (show Rd w0 w2 g d a ts false from by first | exact H1.out.below hb_ | exact (H1.out.drewN _).below hb_ | exact (H1.out.drew).below hb_); have he0 := H2.out.c0; have he1 := H2.out.c1; clear hb_) | (go_at_call 59; (with_reducible refine (hKE _).mono ?_); rintro e w3 ⟨rfl, hb_⟩; have H3 := Lib.hid (show Rd w0 w3 g d a ts false from by first | exact H2.out.below hb_ | exact (H2.out.drewN _).below hb_ | exact (H2.out.drew).below hb_); have hf0 := H3.out.c0; have hf1 := H3.out.c1; clear hb_) | (go_at_call 78; (with_reducible refine (stands_c _ (zz26) Q _ (by omega)).mono ?_); rintro e w' ⟨rfl, n_, rfl⟩) | (go_at_call 107; (with_reducible refine (fails_c _ (zz26)).mono ?_); rintro e w' ⟨rfl, hf_⟩))
  first | go_end0 | go_ret | ((try simp only [Exit.inBlock, Exit.then]); refine bodyPost_ret (results_none rfl _ _ _) rfl ?_)
  exact ⟨rfl, _, _, hf_⟩
 | true =>
  rw [if_neg (by decide)] at hP
  have hroom := hroom rfl
  have hO1 := skipP_in d.data.toList (Q + 1) (by omega) (by omega)
  rw [hO] at hO1
  obtain ⟨s2, hS2⟩ : ∃ s, standsB d O ⟨#[34]⟩ = s := ⟨_, rfl⟩
  obtain ⟨s3, hS3⟩ : ∃ s, standsB d O ⟨#[39]⟩ = s := ⟨_, rfl⟩
  have hroom2 := stands_room d O 34 (by omega)
  have hroom3 := stands_room d O 39 (by omega)
  rw [hS2] at hroom2 hP
  rw [hS3] at hroom3 hP
  have HS2 := Lib.hid hS2
  have HS3 := Lib.hid hS3
  by_cases c3 : s2 = false ∧ s3 = false
  ·rw [if_pos c3] at hP
   subst hP
   obtain ⟨rfl, rfl⟩ := c3
   clear hroom2 hroom3
   go_enter Tryz.func110, Tryz.ntmps110
   go_wp2
   go_region_held3 (fun W => W.cell? ⟨g, 0, none⟩ = some (.string d) ∧ W.cell? ⟨g, 1, none⟩ = some (.int .i64 a)) (first | exact ⟨by assumption, by assumption⟩ | go_keep) ((go_at_call 59; (with_reducible refine (hK0 _).mono ?_); rintro e w1 ⟨rfl, hb_⟩; have H1 := Lib.hid (show Rd w0 w1 g d a ts false from by first | exact H.out.below hb_ | exact (H.out.drewN _).below hb_ | exact (H.out.drew).below hb_); have hd0 := H1.out.c0; have hd1 := H1.out.c1; clear hb_))
   go_wp2_with (first | (go_at_call 76; (with_reducible refine (hN _).mono ?_); rintro e w2 ⟨rfl, hb_⟩; have H2 := Lib.hid (show Rd w0 w2 g d a ts false from by first | exact H1.out.below hb_ | exact (H1.out.drewN _).below hb_ | exact (H1.out.drew).below hb_); have he0 := H2.out.c0; have he1 := H2.out.c1; clear hb_) | (go_at_call 59; (with_reducible refine (hKE _).mono ?_); rintro e w3 ⟨rfl, hb_⟩; have H3 := Lib.hid (show Rd w0 w3 g d a ts false from by first | exact H2.out.below hb_ | exact (H2.out.drewN _).below hb_ | exact (H2.out.drew).below hb_); have hf0 := H3.out.c0; have hf1 := H3.out.c1; clear hb_) | (go_at_call 78; (with_reducible refine (stands_c _ (zz26) Q _ (by omega)).mono ?_); rintro e w' ⟨rfl, n_, rfl⟩) | (go_at_call 59; (with_reducible refine (hKO _).mono ?_); rintro e w4 ⟨rfl, hb_⟩; have H4 := Lib.hid (show Rd w0 w4 g d a ts false from by first | exact H3.out.below hb_ | exact (H3.out.drewN _).below hb_ | exact (H3.out.drew).below hb_); have hg0 := H4.out.c0; have hg1 := H4.out.c1; clear hb_) | (go_at_call 78; (with_reducible refine (stands_c _ (by first | exact H4.out | exact H4.out.drewN _) O _ (by omega)).mono ?_); rintro e w' ⟨rfl, n_, rfl⟩) | (go_at_call 107; (with_reducible refine (fails_c _ (by first | exact H4.out | exact H4.out.drewN _)).mono ?_); rintro e w' ⟨rfl, hf_⟩))
   first | go_end0 | go_ret | ((try simp only [Exit.inBlock, Exit.then]); refine bodyPost_ret (results_none rfl _ _ _) rfl ?_)
   exact ⟨rfl, _, _, hf_⟩
  rw [if_neg c3] at hP
  have hO2 : O < (d.size : Int) := by
   cases s2 with
   | true => exact hroom2 rfl
   | false => cases s3 with
    | true => exact hroom3 rfl
    | false => exact absurd ⟨rfl, rfl⟩ c3
  have hqt : s2 = true ∨ (s2 = false ∧ s3 = true) := by
   cases s2 with
   | true => exact .inl rfl
   | false => cases s3 with
    | true => exact .inr ⟨rfl, rfl⟩
    | false => exact absurd ⟨rfl, rfl⟩ c3
  clear c3 hroom2 hroom3 HS1 HS2 HS3
  obtain ⟨B, hB⟩ : ∃ B, d.extract (O + 1).toNat d.size = B := ⟨_, rfl⟩
  obtain ⟨Z, hZ⟩ : ∃ Z, d.extract O.toNat (O + 1).toNat = Z := ⟨_, rfl⟩
  have hZ' : partB d O (O + 1) = Z := hZ
  have hBl : B.data.toList = d.data.toList.drop (O + 1).toNat := by
   rw [← hB, Lib.extract_data, List.take_of_length_le (by rw [List.length_drop, ← Lib.size_eq]; exact Nat.le_refl _)]
  have hBs : B.size ≤ d.size := by rw [Lib.size_eq, hBl, List.length_drop, ← Lib.size_eq]; omega
  obtain ⟨m, hm⟩ := hG
  have hcell : ∀ W, Below w0.heap.size w0 W → W.cell? ⟨0, 0, none⟩ = some (.int .i64 m) := fun W hb => by
   have hlt := World.block_lt_of_cell? _ _ hm
   rw [← hm]; unfold World.cell?
   simp only [hb.block 0 hlt]
  obtain ⟨C1, hC1⟩ : ∃ C1, (⟨(Lib.cut B.data.toList Z.data.toList).1.toArray⟩ : ByteArray) = C1 := ⟨_, rfl⟩
  obtain ⟨C2, hC2⟩ : ∃ C2, (⟨(Lib.cut B.data.toList Z.data.toList).2.1.toArray⟩ : ByteArray) = C2 := ⟨_, rfl⟩
  obtain ⟨q, hq⟩ : ∃ q, (Lib.cut B.data.toList Z.data.toList).2.2 = q := ⟨_, rfl⟩
  have hCx : ∀ W, Below w0.heap.size w0 W → Calls Tryz.prog 109 #[.string B, .string Z] W fun e w' => e = .returned (.tuple #[.string C1, .string C2, .bool q]) ∧ ∃ n, w' = W.drewN n := fun W hb => by
   have := Tryz.strings_Cut B Z m W (by omega) (hcell W hb)
   rw [← hC1, ← hC2, ← hq]; exact this
  have HCx := Lib.hid hCx
  have hC1l : C1.data.toList = (Lib.cut B.data.toList Z.data.toList).1 := by rw [← hC1]
  have hC1s : C1.size ≤ B.size := by
   rw [Lib.size_eq, Lib.size_eq, hC1l]; exact cut_le _ _
  obtain ⟨ct, hct⟩ : ∃ ct, decide (0 ≤ Lib.indexByte C1.data.toList 60) = ct := ⟨_, rfl⟩
  have hCo : ∀ W, Calls Tryz.prog 122 #[.string C1, .string ⟨#[60]⟩] W fun e w' => e = .returned (.bool ct) ∧ w' = W := fun W => by
   have := Tryz.strings_Contains_one C1 60 W
   rw [hct] at this; exact this
  rw [hZ', ← hBl, ← hC1l, hq] at hP
  have hw3 : IntKind.i64.wrap (O + 1) = O + 1 := zz15
  have g0 : decide (0 ≤ O) = true := decide_eq_true (by omega)
  have g1 : decide (0 ≤ O + 1) = true := decide_eq_true (by omega)
  have g2 : decide (O + 1 ≤ (d.size : Int)) = true := decide_eq_true (by omega)
  have g3 : decide (O ≤ O + 1) = true := decide_eq_true (by omega)
  have g0' := eq_true (show 0 ≤ O by omega)
  have g1' := eq_true (show 0 ≤ O + 1 by omega)
  have g2' := eq_true (show O + 1 ≤ (d.size : Int) by omega)
  have g3' := eq_true (show O ≤ O + 1 by omega)
  clear hCx hcell hm hC1 hC2 hF hE hQ hO
  cases q with
  | false =>
   rw [if_pos rfl] at hP
   subst hP
   rcases hqt with rfl | ⟨rfl, rfl⟩
   all_goals
    go_enter Tryz.func110, Tryz.ntmps110
    go_wp2
    go_region_held3 (fun W => W.cell? ⟨g, 0, none⟩ = some (.string d) ∧ W.cell? ⟨g, 1, none⟩ = some (.int .i64 a)) (first | exact ⟨by assumption, by assumption⟩ | go_keep) ((go_at_call 59; (with_reducible refine (hK0 _).mono ?_); rintro e w1 ⟨rfl, hb_⟩; have H1 := Lib.hid (show Rd w0 w1 g d a ts false from by first | exact H.out.below hb_ | exact (H.out.drewN _).below hb_ | exact (H.out.drew).below hb_); have hd0 := H1.out.c0; have hd1 := H1.out.c1; clear hb_))
    go_wp2_with (first | (go_at_call 76; (with_reducible refine (hN _).mono ?_); rintro e w2 ⟨rfl, hb_⟩; have H2 := Lib.hid (show Rd w0 w2 g d a ts false from by first | exact H1.out.below hb_ | exact (H1.out.drewN _).below hb_ | exact (H1.out.drew).below hb_); have he0 := H2.out.c0; have he1 := H2.out.c1; clear hb_) | (go_at_call 59; (with_reducible refine (hKE _).mono ?_); rintro e w3 ⟨rfl, hb_⟩; have H3 := Lib.hid (show Rd w0 w3 g d a ts false from by first | exact H2.out.below hb_ | exact (H2.out.drewN _).below hb_ | exact (H2.out.drew).below hb_); have hf0 := H3.out.c0; have hf1 := H3.out.c1; clear hb_) | (go_at_call 78; (with_reducible refine (stands_c _ (zz26) Q _ (by omega)).mono ?_); rintro e w' ⟨rfl, n_, rfl⟩) | (go_at_call 59; (with_reducible refine (hKO _).mono ?_); rintro e w4 ⟨rfl, hb_⟩; have H4 := Lib.hid (show Rd w0 w4 g d a ts false from by first | exact H3.out.below hb_ | exact (H3.out.drewN _).below hb_ | exact (H3.out.drew).below hb_); have hg0 := H4.out.c0; have hg1 := H4.out.c1; clear hb_) | (go_at_call 78; (with_reducible refine (stands_c _ (by first | exact H4.out | exact H4.out.drewN _) O _ (by omega)).mono ?_); rintro e w' ⟨rfl, n_, rfl⟩))
    go_region_held3 (fun W => W.cell? ⟨g, 0, none⟩ = some (.string d)) (first | assumption | exact Rd.c0 (w0 := w0) (g := g) (d := d) (a := a) (ts := ts) (x := false) (zz11) | go_keep) ((go_at_call 109; refine (HCx.out _ ?_).mono ?_; exact (Rd.bel (g := g) (d := d) (a := a) (ts := ts) (x := false) (zz11)); rintro e w' ⟨rfl, n8, rfl⟩))
    go_wp2_with (first | (go_at_call 107; (with_reducible refine (fails_c _ (by first | exact H4.out | exact H4.out.drewN _)).mono ?_); rintro e w' ⟨rfl, hf_⟩))
    first | go_end0 | go_ret | ((try simp only [Exit.inBlock, Exit.then]); refine bodyPost_ret (results_none rfl _ _ _) rfl ?_)
    exact ⟨rfl, _, _, hf_⟩
  | true =>
   rw [if_neg (by decide)] at hP
   cases ct with
   | true =>
    rw [if_pos (of_decide_eq_true hct)] at hP
    subst hP
    rcases hqt with rfl | ⟨rfl, rfl⟩
    all_goals
     go_enter Tryz.func110, Tryz.ntmps110
     go_wp2
     go_region_held3 (fun W => W.cell? ⟨g, 0, none⟩ = some (.string d) ∧ W.cell? ⟨g, 1, none⟩ = some (.int .i64 a)) (first | exact ⟨by assumption, by assumption⟩ | go_keep) ((go_at_call 59; (with_reducible refine (hK0 _).mono ?_); rintro e w1 ⟨rfl, hb_⟩; have H1 := Lib.hid (show Rd w0 w1 g d a ts false from by first | exact H.out.below hb_ | exact (H.out.drewN _).below hb_ | exact (H.out.drew).below hb_); have hd0 := H1.out.c0; have hd1 := H1.out.c1; clear hb_))
     go_wp2_with (first | (go_at_call 76; (with_reducible refine (hN _).mono ?_); rintro e w2 ⟨rfl, hb_⟩; have H2 := Lib.hid (show Rd w0 w2 g d a ts false from by first | exact H1.out.below hb_ | exact (H1.out.drewN _).below hb_ | exact (H1.out.drew).below hb_); have he0 := H2.out.c0; have he1 := H2.out.c1; clear hb_) | (go_at_call 59; (with_reducible refine (hKE _).mono ?_); rintro e w3 ⟨rfl, hb_⟩; have H3 := Lib.hid (show Rd w0 w3 g d a ts false from by first | exact H2.out.below hb_ | exact (H2.out.drewN _).below hb_ | exact (H2.out.drew).below hb_); have hf0 := H3.out.c0; have hf1 := H3.out.c1; clear hb_) | (go_at_call 78; (with_reducible refine (stands_c _ (zz26) Q _ (by omega)).mono ?_); rintro e w' ⟨rfl, n_, rfl⟩) | (go_at_call 59; (with_reducible refine (hKO _).mono ?_); rintro e w4 ⟨rfl, hb_⟩; have H4 := Lib.hid (show Rd w0 w4 g d a ts false from by first | exact H3.out.below hb_ | exact (H3.out.drewN _).below hb_ | exact (H3.out.drew).below hb_); have hg0 := H4.out.c0; have hg1 := H4.out.c1; clear hb_) | (go_at_call 78; (with_reducible refine (stands_c _ (by first | exact H4.out | exact H4.out.drewN _) O _ (by omega)).mono ?_); rintro e w' ⟨rfl, n_, rfl⟩))
     go_region_held3 (fun W => W.cell? ⟨g, 0, none⟩ = some (.string d)) (first | assumption | exact Rd.c0 (w0 := w0) (g := g) (d := d) (a := a) (ts := ts) (x := false) (zz11) | go_keep) ((go_at_call 109; refine (HCx.out _ ?_).mono ?_; exact (Rd.bel (g := g) (d := d) (a := a) (ts := ts) (x := false) (zz11)); rintro e w' ⟨rfl, n8, rfl⟩))
     go_wp2_with (first | (go_at_call 122; (with_reducible refine (hCo _).mono ?_); rintro e w' ⟨rfl, rfl⟩) | (go_at_call 107; (with_reducible refine (fails_c _ (by first | exact H4.out | exact H4.out.drewN _)).mono ?_); rintro e w' ⟨rfl, hf_⟩))
     first | go_end0 | go_ret | ((try simp only [Exit.inBlock, Exit.then]); refine bodyPost_ret (results_none rfl _ _ _) rfl ?_)
     exact ⟨rfl, _, _, hf_⟩
   | false =>
    rw [if_neg (of_decide_eq_false hct)] at hP
    have hw4 : IntKind.i64.wrap (IntKind.i64.wrap (O + (C1.size : Int)) + 2) = O + (C1.size : Int) + 2 := by rw [IntKind.wrap_i64, IntKind.wrap_i64]; omega
    have k0 : decide (0 ≤ F) = true := decide_eq_true (by omega)
    have k1 : decide (F ≤ E) = true := decide_eq_true (by omega)
    have k2 : decide (E ≤ (d.size : Int)) = true := decide_eq_true (by omega)
    have k0' := eq_true (show 0 ≤ F by omega)
    have k1' := eq_true (show F ≤ E by omega)
    have k2' := eq_true (show E ≤ (d.size : Int) by omega)
    have hS : ∀ w', Rd w0 w' g d (O + (C1.size : Int) + 2) (ts ++ [⟨2, F, O + (C1.size : Int) + 2, partB d F E, decS C1⟩]) (false || decBad C1) → Step w0 w' g d ts P := by
     intro w' hr
     subst hP
     rw [Lib.size_eq] at hr
     cases hd : dec C1.data.toList with
     | none =>
      have : decBad C1 = true := by unfold decBad; rw [hd]; rfl
      rw [this] at hr
      exact ⟨_, _, hr⟩
     | some v =>
      have hb : decBad C1 = false := by unfold decBad; rw [hd]; rfl
      have hv : decS C1 = ⟨v.toArray⟩ := by unfold decS; rw [hd]; rfl
      rw [hb, hv] at hr
      exact hr
    have HS := Lib.hid hS
    clear hS hP
    rcases hqt with rfl | ⟨rfl, rfl⟩
    all_goals
     go_enter Tryz.func110, Tryz.ntmps110
     go_wp2
     go_region_held3 (fun W => W.cell? ⟨g, 0, none⟩ = some (.string d) ∧ W.cell? ⟨g, 1, none⟩ = some (.int .i64 a)) (first | exact ⟨by assumption, by assumption⟩ | go_keep) ((go_at_call 59; (with_reducible refine (hK0 _).mono ?_); rintro e w1 ⟨rfl, hb_⟩; have H1 := Lib.hid (show Rd w0 w1 g d a ts false from by first | exact H.out.below hb_ | exact (H.out.drewN _).below hb_ | exact (H.out.drew).below hb_); have hd0 := H1.out.c0; have hd1 := H1.out.c1; clear hb_))
     go_wp2_with (first | (go_at_call 76; (with_reducible refine (hN _).mono ?_); rintro e w2 ⟨rfl, hb_⟩; have H2 := Lib.hid (show Rd w0 w2 g d a ts false from by first | exact H1.out.below hb_ | exact (H1.out.drewN _).below hb_ | exact (H1.out.drew).below hb_); have he0 := H2.out.c0; have he1 := H2.out.c1; clear hb_) | (go_at_call 59; (with_reducible refine (hKE _).mono ?_); rintro e w3 ⟨rfl, hb_⟩; have H3 := Lib.hid (show Rd w0 w3 g d a ts false from by first | exact H2.out.below hb_ | exact (H2.out.drewN _).below hb_ | exact (H2.out.drew).below hb_); have hf0 := H3.out.c0; have hf1 := H3.out.c1; clear hb_) | (go_at_call 78; (with_reducible refine (stands_c _ (zz26) Q _ (by omega)).mono ?_); rintro e w' ⟨rfl, n_, rfl⟩) | (go_at_call 59; (with_reducible refine (hKO _).mono ?_); rintro e w4 ⟨rfl, hb_⟩; have H4 := Lib.hid (show Rd w0 w4 g d a ts false from by first | exact H3.out.below hb_ | exact (H3.out.drewN _).below hb_ | exact (H3.out.drew).below hb_); have hg0 := H4.out.c0; have hg1 := H4.out.c1; clear hb_) | (go_at_call 78; (with_reducible refine (stands_c _ (by first | exact H4.out | exact H4.out.drewN _) O _ (by omega)).mono ?_); rintro e w' ⟨rfl, n_, rfl⟩))
     go_region_held3 (fun W => W.cell? ⟨g, 0, none⟩ = some (.string d)) (first | assumption | exact Rd.c0 (w0 := w0) (g := g) (d := d) (a := a) (ts := ts) (x := false) (zz11) | go_keep) ((go_at_call 109; refine (HCx.out _ ?_).mono ?_; exact (Rd.bel (g := g) (d := d) (a := a) (ts := ts) (x := false) (zz11)); rintro e w' ⟨rfl, n8, rfl⟩))
     go_wp2_with (first | (go_at_call 122; (with_reducible refine (hCo _).mono ?_); rintro e w' ⟨rfl, rfl⟩))
     go_region_held3 (fun W => W.cell? ⟨g, 0, none⟩ = some (.string d)) (first | assumption | exact Rd.c0 (w0 := w0) (g := g) (d := d) (a := a) (ts := ts) (x := false) (zz11) | go_keep) (first | (go_at_call 111; refine (decode_c (w0 := w0) (g := g) (d := d) (a := a) (ts := ts) (x := false) _ ?_ C1 (by omega)).mono ?_; (first | exact H4.out | exact H4.out.drewN _ | exact H4.out.drew | exact (H4.out.drewN _).drew | exact (H4.out.drewN _).drew.drewN _ | exact H4.out.drew.drewN _ | exact (H4.out.drewN _).drewN _); rintro e w' ⟨rfl, hr⟩; have hc8 := hr.c0) | (go_at_call 108; refine (tell_c (w0 := w0) (g := g) (d := d) (a := a) (ts := ts) (x := false || decBad C1) _ (by assumption) 2 F _ _ _ hl).mono ?_; rintro e w' ⟨rfl, ht⟩; have hc9 := ht.c0))
     all_goals
      go_wp2
      first | go_end0 | ((try simp only [Exit.inBlock, Exit.then]); refine bodyPost_ret (results_none rfl _ _ _) rfl ?_)
      exact ⟨rfl, HS.out _ ht⟩
def attrsF (d : ByteArray) : Nat → Int → List Tok → Option (List Tok × Int)
 | 0, _, _ => none
 | n + 1, a, acc =>
  if standsB d (skipP d.data.toList a) ⟨#[62]⟩ = true then some (acc ++ [⟨3, skipP d.data.toList a, skipP d.data.toList a + 1, ⟨#[]⟩, ⟨#[]⟩⟩], skipP d.data.toList a + 1)
  else if standsB d (skipP d.data.toList a) ⟨#[47, 62]⟩ = true then some (acc ++ [⟨4, skipP d.data.toList a, skipP d.data.toList a + 2, ⟨#[]⟩, ⟨#[]⟩⟩], skipP d.data.toList a + 2)
  else match attrP d a with
   | some (new, a') => attrsF d n a' (acc ++ new)
   | none => none
def tagP (d : ByteArray) (a : Int) : Option (List Tok × Int) :=
 let E := nameEndP d.data.toList (a + 1)
 if E = a + 1 then none else attrsF d (d.size + 1) E [⟨1, a, E, partB d (a + 1) E, ⟨#[]⟩⟩]
theorem stands_room2 (d : ByteArray) (i : Int) (s : ByteArray) (h0 : 0 ≤ i) (hs : 0 < s.size) (h : standsB d i s = true) : i + s.size ≤ (d.size : Int) := by
 unfold standsB Lib.hasPrefix at h
 obtain ⟨t, ht⟩ := List.isPrefixOf_iff_prefix.1 h
 have := congrArg List.length ht
 rw [List.length_append, List.length_drop] at this
 rw [Lib.size_eq d, Lib.size_eq s]
 rw [Lib.size_eq s] at hs
 omega
theorem attr_room (d : ByteArray) (a : Int) (h0 : 0 ≤ a) (h1 : a ≤ (d.size : Int)) (new : List Tok) (a' : Int) (h : attrP d a = some (new, a')) : a < a' ∧ a' ≤ (d.size : Int) ∧ new.length = 1 := by
 have hsz : d.data.toList.length = d.size := (Lib.size_eq d).symm
 unfold attrP at h
 obtain ⟨F, hF⟩ : ∃ F, skipP d.data.toList a = F := ⟨_, rfl⟩
 obtain ⟨E, hE⟩ : ∃ E, nameEndP d.data.toList F = E := ⟨_, rfl⟩
 obtain ⟨Q, hQ⟩ : ∃ Q, skipP d.data.toList E = Q := ⟨_, rfl⟩
 obtain ⟨O, hO⟩ : ∃ O, skipP d.data.toList (Q + 1) = O := ⟨_, rfl⟩
 simp only [hF, hE, hQ, hO] at h
 have hF1 := skipP_in d.data.toList a (by omega) (by omega)
 rw [hF] at hF1
 have hE1 := nameEndP_in d.data.toList F (by omega) (by omega)
 rw [hE] at hE1
 have hQ1 := skipP_in d.data.toList E (by omega) (by omega)
 rw [hQ] at hQ1
 by_cases c1 : F = a
 ·rw [if_pos c1] at h; cases h
 rw [if_neg c1] at h
 by_cases c2 : E = F
 ·rw [if_pos c2] at h; cases h
 rw [if_neg c2] at h
 by_cases c3 : standsB d Q ⟨#[61]⟩ = false
 ·rw [if_pos c3] at h; cases h
 rw [if_neg c3] at h
 have hr1 := stands_room d Q 61 (by omega) (by simpa using c3)
 have hO1 := skipP_in d.data.toList (Q + 1) (by omega) (by omega)
 rw [hO] at hO1
 by_cases c4 : standsB d O ⟨#[34]⟩ = false ∧ standsB d O ⟨#[39]⟩ = false
 ·rw [if_pos c4] at h; cases h
 rw [if_neg c4] at h
 have hr2 : O < (d.size : Int) := by
  by_cases c : standsB d O ⟨#[34]⟩ = true
  ·exact stands_room d O 34 (by omega) c
  ·by_cases c' : standsB d O ⟨#[39]⟩ = true
   ·exact stands_room d O 39 (by omega) c'
   ·exact absurd ⟨by simpa using c, by simpa using c'⟩ c4
 have hsep : (partB d O (O + 1)).data.toList.length = 1 := by
  unfold partB
  rw [Lib.extract_data, List.length_take, List.length_drop]; omega
 obtain ⟨s, hs⟩ : ∃ s, (partB d O (O + 1)).data.toList = s := ⟨_, rfl⟩
 rw [hs] at h hsep
 by_cases c5 : (Lib.cut (d.data.toList.drop (O + 1).toNat) s).2.2 = false
 ·rw [if_pos c5] at h; cases h
 rw [if_neg c5] at h
 by_cases c6 : 0 ≤ Lib.indexByte (Lib.cut (d.data.toList.drop (O + 1).toNat) s).1 60
 ·rw [if_pos c6] at h; cases h
 rw [if_neg c6] at h
 have hcl : ((Lib.cut (d.data.toList.drop (O + 1).toNat) s).1.length : Int) + 1 ≤ ((d.data.toList.drop (O + 1).toNat).length : Int) := by
  unfold Lib.cut at c5 ⊢
  by_cases ci : 0 ≤ Lib.index (d.data.toList.drop (O + 1).toNat) s
  ·rw [if_pos ci]
   have := Lib.index_room _ _ ci
   rw [List.length_take]; omega
  ·rw [if_neg ci] at c5; exact absurd rfl c5
 rw [List.length_drop] at hcl
 cases hd : dec (Lib.cut (d.data.toList.drop (O + 1).toNat) s).1 with
 | none => rw [hd] at h; cases h
 | some v =>
  rw [hd] at h
  injection h with h
  injection h with h2 h3
  subst h3 h2
  refine ⟨by omega, by omega, rfl⟩
def ahead (d : ByteArray) (g : Nat) (w : World) : Nat := match w.cell? ⟨g, 1, none⟩, w.cell? ⟨g, 3, none⟩ with
 | some (.int _ a), some (.bool x) => if x then 0 else ((d.size : Int) - a).toNat + 1
 | _, _ => 0
theorem Rd.ahead_ (h : Rd w0 W g d a ts x) : ahead d g W = if x then 0 else ((d.size : Int) - a).toNat + 1 := by
 unfold ahead
 rw [h.c1, h.c3]
def TagRel (d : ByteArray) (P : Option (List Tok × Int)) (a : Int) (acc : List Tok) : Prop :=
 0 ≤ a ∧ a ≤ (d.size : Int) ∧ (acc.length : Int) ≤ a ∧ ∃ n : Nat, (d.size : Int) - a < n ∧ P = attrsF d n a acc
set_option maxHeartbeats 16000000 in
set_option maxRecDepth 100000 in
theorem tag_c (w : World) (h : Rd w0 w g d a ts false) (hG : G w0) (hl : ts.length ≤ 100000) (hs : d.size ≤ 800000) (h0 : 0 ≤ a) (h4 : a + 1 ≤ (d.size : Int)) :
 Calls Tryz.prog 82 #[.pointer (some ⟨g, 0, none⟩)] w fun e w' => e = .returned (.tuple #[]) ∧ Step w0 w' g d ts (tagP d a) := by
 have H := Lib.hid h
 have hsz : d.data.toList.length = d.size := (Lib.size_eq d).symm
 obtain ⟨E, hE⟩ : ∃ E, nameEndP d.data.toList (a + 1) = E := ⟨_, rfl⟩
 have hE1 := nameEndP_in d.data.toList (a + 1) (by omega) (by omega)
 rw [hE] at hE1
 have hN : ∀ W, Calls Tryz.prog 76 #[.string d, .int .i64 (a + 1)] W fun e w' => e = .returned (.int .i64 E) ∧ Below W.heap.size W w' := fun W => chars_NameEnd.calls d (a + 1) E W (by unfold chars_NameEnd.f; rw [if_pos (by omega), hE])
 obtain ⟨P, hP⟩ : ∃ P, tagP d a = P := ⟨_, rfl⟩
 rw [hP]
 unfold tagP at hP
 simp only [hE] at hP
 have hc0 := h.c0
 have hc1 := h.c1
 have hx0 := h.drew.c0
 have hx1 := h.drew.c1
 have hw : IntKind.i64.wrap (a + 1) = a + 1 := zz15
 have hla : ts.length ≤ 1000000 := by omega
 clear h
 by_cases c1 : E = a + 1
 ·rw [if_pos c1] at hP
  subst hP
  have b1 : (E == a + 1) = true := by rw [c1]; exact beq_self_eq_true _
  have b2 := eq_true c1
  clear c1
  go_enter Tryz.func82, Tryz.ntmps82
  go_step3
  go_wp2
  go_region_held3 (fun W => W.cell? ⟨g, 0, none⟩ = some (.string d) ∧ W.cell? ⟨g, 1, none⟩ = some (.int .i64 a)) (first | exact ⟨by assumption, by assumption⟩ | go_keep) ((go_at_call 76; (with_reducible refine (hN _).mono ?_); rintro e w1 ⟨rfl, hb_⟩; have H1 := Lib.hid (show Rd w0 w1 g d a ts false from by first | exact H.out.below hb_ | exact (H.out.drewN _).below hb_ | exact (H.out.drew).below hb_); have hd0 := H1.out.c0; have hd1 := H1.out.c1; have hd3 := H1.out.c3; clear hb_))
  go_wp2_with ((go_at_call 107; (with_reducible refine (fails_c _ (by first | exact H1.out | exact H1.out.drewN _)).mono ?_); rintro e w' ⟨rfl, hf_⟩))
  (try rw [Exit.noGoto_ret])
  first | go_end0 | go_ret | ((try simp only [Exit.inBlock, Exit.then]); refine bodyPost_ret (results_none rfl _ _ _) rfl ?_)
  exact ⟨rfl, _, _, hf_⟩
 rw [if_neg c1] at hP
 have b1 : (E == a + 1) = false := beq_eq_false_iff_ne.2 c1
 have b2 := eq_false c1
 clear c1
 have g0 : decide (0 ≤ a + 1) = true := decide_eq_true (by omega)
 have g1 : decide (a + 1 ≤ E) = true := decide_eq_true (by omega)
 have g2 : decide (E ≤ (d.size : Int)) = true := decide_eq_true (by omega)
 have g0' := eq_true (show 0 ≤ a + 1 by omega)
 have g1' := eq_true (show a + 1 ≤ E by omega)
 have g2' := eq_true (show E ≤ (d.size : Int) by omega)
 have hT : TagRel d P E [⟨1, a, E, partB d (a + 1) E, ⟨#[]⟩⟩] := ⟨by omega, by omega, by simp; omega, ⟨d.size + 1, by omega, hP.symm⟩⟩
 have HT := Lib.hid hT
 clear hT hP
 go_enter Tryz.func82, Tryz.ntmps82
 go_step3
 go_wp2
 go_region_held3 (fun W => W.cell? ⟨g, 0, none⟩ = some (.string d) ∧ W.cell? ⟨g, 1, none⟩ = some (.int .i64 a)) (first | exact ⟨by assumption, by assumption⟩ | go_keep) ((go_at_call 76; (with_reducible refine (hN _).mono ?_); rintro e w1 ⟨rfl, hb_⟩; have H1 := Lib.hid (show Rd w0 w1 g d a ts false from by first | exact H.out.below hb_ | exact (H.out.drewN _).below hb_ | exact (H.out.drew).below hb_); have hd0 := H1.out.c0; have hd1 := H1.out.c1; have hd3 := H1.out.c3; clear hb_))
 go_wp2
 have hy0 := H1.out.drew.c0
 have hy1 := H1.out.drew.c1
 go_region_with (go_at_call 108; refine (tell_c (w0 := w0) (g := g) (d := d) (a := a) (ts := ts) (x := false) _ (by first | exact H1.out.drewN _ | exact H1.out.drew | exact (H1.out.drewN _).drew | exact H1.out) 1 a _ _ _ hla).mono ?_; rintro e w' ⟨rfl, hr⟩; have hc9 := hr.c0)
 all_goals
  go_wp2
  (try go_step3)
  go_wp2
  have H2 := Lib.hid hr
  clear hr
  go_loopw [3] (fun t wr => (Hid (P = none) ∧ ∃ p ts', Hid (Rd w0 wr g d p ts' true)) ∨ (∃ p acc, Hid (TagRel d P p acc) ∧ Hid (Rd w0 wr g d p (ts ++ acc) false))) (fun t wr => ahead d g wr)
  case atStart => exact .inr ⟨_, _, HT, H2⟩
  case round =>
   clear H2 HT
   rcases hrel with ⟨hPn, p, ts', HR⟩ | ⟨p, acc, hRel, HR⟩
   ·have hc3 := HR.out.c3
    go_wp2
    first | go_end0 | go_ret | (simp only [Exit.noGoto]; go_end0) | (simp only [Exit.noGoto]; refine bodyPost_ret (results_none rfl _ _ _) rfl ?_) | ((try rw [Exit.noGoto_ret]); (try simp only [Exit.inBlock, Exit.then]); refine bodyPost_ret (results_none rfl _ _ _) rfl ?_)
    exact ⟨rfl, by rw [hPn.out]; exact ⟨_, _, HR.out⟩⟩
   ·have hmeas := Lib.hid HR.out.ahead_
    obtain ⟨r1, r2, r3, n, hn, hPn⟩ := hRel.out
    have hc3 := HR.out.c3
    have hz3 := HR.out.drew.c3
    have hz0 := HR.out.drew.c0
    have hz1 := HR.out.drew.c1
    have hv0 := HR.out.c0
    have hv1 := HR.out.c1
    obtain ⟨I, hI⟩ : ∃ I, skipP d.data.toList p = I := ⟨_, rfl⟩
    have hI1 := skipP_in d.data.toList p r1 (by omega)
    rw [hI] at hI1
    have hK : ∀ W, Calls Tryz.prog 59 #[.string d, .int .i64 p] W fun e w' => e = .returned (.int .i64 I) ∧ Below W.heap.size W w' := fun W => chars_Skip.calls d p I W (by unfold chars_Skip.f; rw [if_pos (by omega), hI])
    cases n with
    | zero => omega
    | succ n =>
    unfold attrsF at hPn
    rw [hI] at hPn
    have hw5 : IntKind.i64.wrap (I + 1) = I + 1 := zz15
    have hw6 : IntKind.i64.wrap (I + 2) = I + 2 := zz15
    obtain ⟨s1, hS1⟩ : ∃ s, standsB d I ⟨#[62]⟩ = s := ⟨_, rfl⟩
    obtain ⟨s2, hS2⟩ : ∃ s, standsB d I ⟨#[47, 62]⟩ = s := ⟨_, rfl⟩
    rw [hS1, hS2] at hPn
    cases s1 with
    | true =>
     rw [if_pos rfl] at hPn
     subst hPn
     go_wp2
     go_region_held3 (fun W => W.cell? ⟨g, 0, none⟩ = some (.string d) ∧ W.cell? ⟨g, 1, none⟩ = some (.int .i64 p)) (first | exact ⟨by assumption, by assumption⟩ | go_keep) ((go_at_call 59; (with_reducible refine (hK _).mono ?_); rintro e w1 ⟨rfl, hb_⟩; have H3 := Lib.hid (show Rd w0 w1 g d p (ts ++ acc) false from by first | exact HR.out.below hb_ | exact (HR.out.drewN _).below hb_ | exact (HR.out.drew).below hb_); have he0 := H3.out.c0; have he1 := H3.out.c1; have he3 := H3.out.c3; clear hb_))
     go_wp2_with (first | (go_at_call 78; (with_reducible refine (stands_c _ (zz18) I _ (by omega)).mono ?_); rintro e w' ⟨rfl, n_, rfl⟩) | (go_at_call 108; (with_reducible refine (tell_c (w0 := w0) (g := g) (d := d) (a := p) (ts := ts ++ acc) (x := false) _ (zz18) 3 I _ _ _ (zz39)).mono ?_); rintro e w' ⟨rfl, ht⟩))
     first | go_end0 | go_ret | (simp only [Exit.noGoto]; go_end0) | (simp only [Exit.noGoto]; refine bodyPost_ret (results_none rfl _ _ _) rfl ?_) | ((try rw [Exit.noGoto_ret]); (try simp only [Exit.inBlock, Exit.then]); refine bodyPost_ret (results_none rfl _ _ _) rfl ?_)
     exact ⟨rfl, by rw [List.append_assoc] at ht; exact ht⟩
    | false =>
     rw [if_neg (by decide)] at hPn
     cases s2 with
     | true =>
      rw [if_pos rfl] at hPn
      subst hPn
      go_wp2
      go_region_held3 (fun W => W.cell? ⟨g, 0, none⟩ = some (.string d) ∧ W.cell? ⟨g, 1, none⟩ = some (.int .i64 p)) (first | exact ⟨by assumption, by assumption⟩ | go_keep) ((go_at_call 59; (with_reducible refine (hK _).mono ?_); rintro e w1 ⟨rfl, hb_⟩; have H3 := Lib.hid (show Rd w0 w1 g d p (ts ++ acc) false from by first | exact HR.out.below hb_ | exact (HR.out.drewN _).below hb_ | exact (HR.out.drew).below hb_); have he0 := H3.out.c0; have he1 := H3.out.c1; have he3 := H3.out.c3; clear hb_))
      go_wp2_with (first | (go_at_call 78; (with_reducible refine (stands_c _ (zz18) I _ (by omega)).mono ?_); rintro e w' ⟨rfl, n_, rfl⟩) | (go_at_call 108; (with_reducible refine (tell_c (w0 := w0) (g := g) (d := d) (a := p) (ts := ts ++ acc) (x := false) _ (zz18) 4 I _ _ _ (zz39)).mono ?_); rintro e w' ⟨rfl, ht⟩))
      first | go_end0 | go_ret | (simp only [Exit.noGoto]; go_end0) | (simp only [Exit.noGoto]; refine bodyPost_ret (results_none rfl _ _ _) rfl ?_) | ((try rw [Exit.noGoto_ret]); (try simp only [Exit.inBlock, Exit.then]); refine bodyPost_ret (results_none rfl _ _ _) rfl ?_)
      exact ⟨rfl, by rw [List.append_assoc] at ht; exact ht⟩
     | false =>
      rw [if_neg (by decide)] at hPn
      cases hA : attrP d p with
      | none =>
       rw [hA] at hPn
       subst hPn
       go_wp2
       go_region_held3 (fun W => W.cell? ⟨g, 0, none⟩ = some (.string d) ∧ W.cell? ⟨g, 1, none⟩ = some (.int .i64 p)) (first | exact ⟨by assumption, by assumption⟩ | go_keep) ((go_at_call 59; (with_reducible refine (hK _).mono ?_); rintro e w1 ⟨rfl, hb_⟩; have H3 := Lib.hid (show Rd w0 w1 g d p (ts ++ acc) false from by first | exact HR.out.below hb_ | exact (HR.out.drewN _).below hb_ | exact (HR.out.drew).below hb_); have he0 := H3.out.c0; have he1 := H3.out.c1; have he3 := H3.out.c3; clear hb_))
       go_wp2_with (first | (go_at_call 78; (with_reducible refine (stands_c _ (zz18) I _ (by omega)).mono ?_); rintro e w' ⟨rfl, n_, rfl⟩) | (go_at_call 110; (with_reducible refine (attr_c (w0 := w0) (g := g) (d := d) (a := p) (ts := ts ++ acc) _ (zz18) hG (zz39) (by omega) (by omega) (by omega)).mono ?_); rintro e w4 ⟨rfl, ht⟩))
       rw [hA] at ht
       obtain ⟨a', ts', ht⟩ := ht
       have HA := Lib.hid ht
       clear ht
       go_wp2
       go_roundw
       case rel => exact .inl ⟨Lib.hid (by first | trivial | rfl), _, _, HA⟩
       case measure => rw [hmeas.out, HA.out.ahead_]; simp only [Bool.false_eq_true, if_false, if_true]; omega
      | some v =>
       obtain ⟨new, a'⟩ := v
       rw [hA] at hPn
       have hroom := attr_room d p r1 r2 new a' hA
       go_wp2
       go_region_held3 (fun W => W.cell? ⟨g, 0, none⟩ = some (.string d) ∧ W.cell? ⟨g, 1, none⟩ = some (.int .i64 p)) (first | exact ⟨by assumption, by assumption⟩ | go_keep) ((go_at_call 59; (with_reducible refine (hK _).mono ?_); rintro e w1 ⟨rfl, hb_⟩; have H3 := Lib.hid (show Rd w0 w1 g d p (ts ++ acc) false from by first | exact HR.out.below hb_ | exact (HR.out.drewN _).below hb_ | exact (HR.out.drew).below hb_); have he0 := H3.out.c0; have he1 := H3.out.c1; have he3 := H3.out.c3; clear hb_))
       go_wp2_with (first | (go_at_call 78; (with_reducible refine (stands_c _ (zz18) I _ (by omega)).mono ?_); rintro e w' ⟨rfl, n_, rfl⟩) | (go_at_call 110; (with_reducible refine (attr_c (w0 := w0) (g := g) (d := d) (a := p) (ts := ts ++ acc) _ (zz18) hG (zz39) (by omega) (by omega) (by omega)).mono ?_); rintro e w4 ⟨rfl, ht⟩))
       rw [hA] at ht
       have HA := Lib.hid (show Rd w0 w4 g d a' (ts ++ (acc ++ new)) false by rw [← List.append_assoc]; exact ht)
       clear ht
       go_wp2
       go_roundw
       case rel => exact .inr ⟨_, _, Lib.hid ⟨by omega, hroom.2.1, zz39, ⟨n, by omega, hPn⟩⟩, HA⟩
       case measure => rw [hmeas.out, HA.out.ahead_]; simp only [Bool.false_eq_true, if_false, if_true]; omega
end Go.Proofs.YtlhhhlimjajnlaaGreat.X
end
section
set_option linter.unusedVariables false
set_option linter.unusedSimpArgs false
namespace Go.Proofs.YtlhhhlimjajnlaaGreat.X
open Go.RowKit Go.Proofs.YtlhhhlimjajnlaaGreat Go.Proofs.YtlhhhlimjajnlaaGreat.Q Go.Proofs.YtlhhhlimjajnlaaGreat.P11 Go.Proofs.YtlhhhlimjajnlaaGreatW.PrintWords Go.Proofs.YtlhhhlimjajnlaaGreatW.PrintLast Go.Proofs.YtlhhhlimjajnlaaGreatW.PrintMore
def stepP (d : ByteArray) (a : Int) : Option (List Tok × Int) :=
 if standsB d a ⟨#[60, 33, 45, 45]⟩ = true then commentP d.data.toList a
 else if standsB d a ⟨#[60, 33, 91, 67, 68, 65, 84, 65, 91]⟩ = true then plainP d.data.toList a
 else if standsB d a ⟨#[60, 47]⟩ = true then closingP d a
 else if standsB d a ⟨#[60]⟩ = true then tagP d a
 else textP d.data.toList a
def lexF (d : ByteArray) : Nat → Int → List Tok → Option (List Tok)
 | 0, _, _ => none
 | n + 1, a, acc => if a < (d.size : Int) then (match stepP d a with
  | some (new, a') => lexF d n a' (acc ++ new)
  | none => none) else some acc
def lexO (d : ByteArray) : Option (List Tok) := lexF d (d.size + 1) 0 []
def lexV (d : ByteArray) : List Tok × Int :=
 if (65536 : Int) < (d.size : Int) then ([], 18)
 else if validL d.data.toList = false then ([], 15)
 else match lexO d with
  | some l => (l, 0)
  | none => ([], 15)
theorem attrsF_room (d : ByteArray) (b : Int) : ∀ (n : Nat) (a : Int) (acc r : List Tok) (a' : Int), 0 ≤ b → b < a → a ≤ (d.size : Int) → (acc.length : Int) ≤ a - b → attrsF d n a acc = some (r, a') → b < a' ∧ a' ≤ (d.size : Int) ∧ (r.length : Int) ≤ a' - b := by
 intro n
 induction n with
 | zero => intro a acc r a' _ _ _ _ h; cases h
 | succ n ih =>
  intro a acc r a' hb h0 h1 hl h
  have hsz : d.data.toList.length = d.size := (Lib.size_eq d).symm
  unfold attrsF at h
  obtain ⟨I, hI⟩ : ∃ I, skipP d.data.toList a = I := ⟨_, rfl⟩
  have hI1 := skipP_in d.data.toList a (by omega) (by omega)
  rw [hI] at hI1
  rw [hI] at h
  by_cases c1 : standsB d I ⟨#[62]⟩ = true
  ·rw [if_pos c1] at h
   have := stands_room2 d I ⟨#[62]⟩ (by omega) (by decide) c1
   rw [show ((⟨#[62]⟩ : ByteArray).size : Int) = 1 from rfl] at this
   injection h with h; injection h with h2 h3
   subst h3 h2
   rw [List.length_append, List.length_singleton]
   omega
  rw [if_neg c1] at h
  by_cases c2 : standsB d I ⟨#[47, 62]⟩ = true
  ·rw [if_pos c2] at h
   have := stands_room2 d I ⟨#[47, 62]⟩ (by omega) (by decide) c2
   rw [show ((⟨#[47, 62]⟩ : ByteArray).size : Int) = 2 from rfl] at this
   injection h with h; injection h with h2 h3
   subst h3 h2
   rw [List.length_append, List.length_singleton]
   omega
  rw [if_neg c2] at h
  cases hA : attrP d a with
  | none => rw [hA] at h; cases h
  | some v =>
   obtain ⟨new, p⟩ := v
   rw [hA] at h
   have hr := attr_room d a (by omega) h1 new p hA
   exact ih p (acc ++ new) r a' hb (by omega) hr.2.1 (zz39) h
theorem hasPrefix_room (l s : List UInt8) (h : Lib.hasPrefix l s = true) : s.length ≤ l.length := by
 unfold Lib.hasPrefix at h
 obtain ⟨t, ht⟩ := List.isPrefixOf_iff_prefix.1 h
 have := congrArg List.length ht
 rw [List.length_append] at this; omega
theorem step_room (d : ByteArray) (a : Int) (h0 : 0 ≤ a) (h1 : a < (d.size : Int)) (new : List Tok) (a' : Int) (h : stepP d a = some (new, a')) : a < a' ∧ a' ≤ (d.size : Int) ∧ (new.length : Int) ≤ a' - a := by
 have hsz : d.data.toList.length = d.size := (Lib.size_eq d).symm
 unfold stepP at h
 by_cases c1 : standsB d a ⟨#[60, 33, 45, 45]⟩ = true
 ·rw [if_pos c1] at h
  unfold commentP at h
  obtain ⟨i, hi⟩ : ∃ i, Lib.index (d.data.toList.drop (a.toNat + 4)) [45, 45] = i := ⟨_, rfl⟩
  simp only [hi] at h
  by_cases c : i < 0
  ·rw [if_pos c] at h; cases h
  rw [if_neg c] at h
  by_cases c' : Lib.hasPrefix ((d.data.toList.drop (a.toNat + 4)).drop i.toNat) [45, 45, 62] = true
  ·rw [if_pos c'] at h
   have := hasPrefix_room _ _ c'
   rw [List.length_drop, List.length_drop] at this
   simp only [List.length_cons, List.length_nil] at this
   injection h with h; injection h with h2 h3
   subst h3 h2
   refine ⟨by omega, by omega, by simp; omega⟩
  ·rw [if_neg c'] at h; cases h
 rw [if_neg c1] at h
 by_cases c2 : standsB d a ⟨#[60, 33, 91, 67, 68, 65, 84, 65, 91]⟩ = true
 ·rw [if_pos c2] at h
  unfold plainP at h
  by_cases c : (Lib.cut (d.data.toList.drop (a.toNat + 9)) [93, 93, 62]).2.2 = true
  ·simp only [c, if_true] at h
   have hcl : ((Lib.cut (d.data.toList.drop (a.toNat + 9)) [93, 93, 62]).1.length : Int) + 3 ≤ ((d.data.toList.drop (a.toNat + 9)).length : Int) := by
    unfold Lib.cut at c ⊢
    by_cases ci : 0 ≤ Lib.index (d.data.toList.drop (a.toNat + 9)) [93, 93, 62]
    ·rw [if_pos ci]
     have := Lib.index_room _ _ ci
     simp only [List.length_cons, List.length_nil] at this
     rw [List.length_take]; omega
    ·rw [if_neg ci] at c; cases c
   rw [List.length_drop] at hcl
   injection h with h; injection h with h2 h3
   subst h3 h2
   refine ⟨by omega, by omega, by simp; omega⟩
  ·simp only [c] at h; cases h
 rw [if_neg c2] at h
 by_cases c3 : standsB d a ⟨#[60, 47]⟩ = true
 ·rw [if_pos c3] at h
  have hr := stands_room2 d a ⟨#[60, 47]⟩ h0 (by decide) c3
  rw [show ((⟨#[60, 47]⟩ : ByteArray).size : Int) = 2 from rfl] at hr
  unfold closingP at h
  obtain ⟨E, hE⟩ : ∃ E, nameEndP d.data.toList (a + 2) = E := ⟨_, rfl⟩
  obtain ⟨T, hT⟩ : ∃ T, skipP d.data.toList E = T := ⟨_, rfl⟩
  have hE1 := nameEndP_in d.data.toList (a + 2) (by omega) (by omega)
  rw [hE] at hE1
  have hT1 := skipP_in d.data.toList E (by omega) (by omega)
  rw [hT] at hT1
  simp only [hE, hT] at h
  by_cases c : E = a + 2
  ·rw [if_pos c] at h; cases h
  rw [if_neg c] at h
  by_cases c' : standsB d T ⟨#[62]⟩ = true
  ·rw [if_pos c'] at h
   have := stands_room d T 62 (by omega) c'
   injection h with h; injection h with h2 h3
   subst h3 h2
   refine ⟨by omega, by omega, by simp; omega⟩
  ·rw [if_neg c'] at h; cases h
 rw [if_neg c3] at h
 by_cases c4 : standsB d a ⟨#[60]⟩ = true
 ·rw [if_pos c4] at h
  unfold tagP at h
  obtain ⟨E, hE⟩ : ∃ E, nameEndP d.data.toList (a + 1) = E := ⟨_, rfl⟩
  have hE1 := nameEndP_in d.data.toList (a + 1) (by omega) (by omega)
  rw [hE] at hE1
  simp only [hE] at h
  by_cases c : E = a + 1
  ·rw [if_pos c] at h; cases h
  rw [if_neg c] at h
  exact attrsF_room d a _ _ _ _ _ h0 (by omega) (by omega) (by simp; omega) h
 rw [if_neg c4] at h
 unfold textP at h
 obtain ⟨b, hb⟩ : ∃ b, (Lib.cut (d.data.toList.drop a.toNat) [60]).1 = b := ⟨_, rfl⟩
 simp only [hb] at h
 have hble : b.length ≤ (d.data.toList.drop a.toNat).length := by rw [← hb]; exact cut_le _ _
 rw [List.length_drop] at hble
 have hb1 : 1 ≤ b.length := by
  have hlt : a.toNat < d.data.toList.length := by omega
  have hcons := List.drop_eq_getElem_cons hlt
  have hne : ¬ d.data.toList[a.toNat] = 60 := by
   intro e
   apply c4
   unfold standsB Lib.hasPrefix
   rw [hcons, e]
   simp [List.isPrefixOf]
  rw [← hb]
  unfold Lib.cut
  rw [Lib.index_one]
  by_cases ci : 0 ≤ Lib.indexByte (d.data.toList.drop a.toNat) 60
  ·rw [if_pos ci]
   obtain ⟨t, ht⟩ := ((indexByte_split (d.data.toList.drop a.toNat) 60).2 ci).2
   by_cases c0 : (Lib.indexByte (d.data.toList.drop a.toNat) 60).toNat = 0
   ·rw [c0, List.drop_zero, hcons] at ht
    injection ht with ht _
    exact absurd ht hne
   ·have := congrArg List.length ht
    rw [List.length_drop, List.length_cons, List.length_drop] at this
    show 1 ≤ ((d.data.toList.drop a.toNat).take _).length
    rw [List.length_take, List.length_drop]; omega
  ·rw [if_neg ci]
   show 1 ≤ (d.data.toList.drop a.toNat).length
   rw [List.length_drop]; omega
 cases hd : dec b with
 | none => rw [hd] at h; cases h
 | some v =>
  rw [hd] at h
  injection h with h; injection h with h2 h3
  subst h3 h2
  refine ⟨by omega, by omega, by simp; omega⟩
end Go.Proofs.YtlhhhlimjajnlaaGreat.X
end
section
set_option linter.unusedVariables false
set_option linter.unusedSimpArgs false
namespace Go.Proofs.YtlhhhlimjajnlaaGreat.X
open Go Go.RowKit Go.Proofs.YtlhhhlimjajnlaaGreat Go.Proofs.YtlhhhlimjajnlaaGreat.Q Go.Proofs.YtlhhhlimjajnlaaGreat.P11 Go.Proofs.YtlhhhlimjajnlaaGreatW.PrintWords
def parseV (d : ByteArray) : (List ByteArray × List Nod) × Int :=
 if (lexV d).2 = 0 then treeP (flushP ((lexV d).1.foldl stepT psZero)) else (([], []), (lexV d).2)
end Go.Proofs.YtlhhhlimjajnlaaGreat.X
end
section
set_option linter.unusedVariables false
set_option linter.unusedSimpArgs false
namespace Go.Proofs.YtlhhhlimjajnlaaGreat.P12
open Go Go.RowKit Go.Proofs.YtlhhhlimjajnlaaGreat Go.Proofs.YtlhhhlimjajnlaaGreat.Q Go.Proofs.YtlhhhlimjajnlaaGreatW.PrintWords Go.Proofs.YtlhhhlimjajnlaaGreat.X Go.Proofs.YtlhhhlimjajnlaaGreat.P11
theorem enc_high (c : Int) (hp : pointB c = true) (h : 128 ≤ c) : ∀ x, x ∈ encL c → 128 ≤ x.toNat := by
 have hr := point_range hp
 unfold encL
 rw [if_pos hp, if_neg (by omega)]
 have b := byteI_nat
 intro x hx
 split at hx
 ·simp only [List.mem_cons, List.not_mem_nil, or_false] at hx
  rcases hx with rfl | rfl
  ·have := byteI_nat (192 + c / 64) (by omega) (by omega); omega
  ·have := byteI_nat (128 + c % 64) (by omega) (by omega); omega
 split at hx
 ·simp only [List.mem_cons, List.not_mem_nil, or_false] at hx
  rcases hx with rfl | rfl | rfl
  ·have := byteI_nat (224 + c / 4096) (by omega) (by omega); omega
  ·have := byteI_nat (128 + c / 64 % 64) (by omega) (by omega); omega
  ·have := byteI_nat (128 + c % 64) (by omega) (by omega); omega
 ·simp only [List.mem_cons, List.not_mem_nil, or_false] at hx
  rcases hx with rfl | rfl | rfl | rfl
  ·have := byteI_nat (240 + c / 262144) (by omega) (by omega); omega
  ·have := byteI_nat (128 + c / 4096 % 64) (by omega) (by omega); omega
  ·have := byteI_nat (128 + c / 64 % 64) (by omega) (by omega); omega
  ·have := byteI_nat (128 + c % 64) (by omega) (by omega); omega
theorem enc_low (b : UInt8) (h : b.toNat < 128) : pointB (b.toNat : Int) = true ∧ encL (b.toNat : Int) = [b] := by
 have hp : pointB (b.toNat : Int) = true := by unfold pointB; simp; omega
 refine ⟨hp, ?_⟩
 unfold encL
 rw [if_pos hp, if_pos (by omega), byteI_eq _ b rfl]
end Go.Proofs.YtlhhhlimjajnlaaGreat.P12
end
