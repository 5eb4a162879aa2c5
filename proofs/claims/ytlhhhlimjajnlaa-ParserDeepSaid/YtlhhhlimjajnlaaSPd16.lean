/- Parts of the proof of parserDeep_holds, kept and merged by a program of mine (wip/tools/slim.py) out of my texts: P11v LexJ -/
import Derived.Test.YtlhhhlimjajnlaaSPd15
import Derived.Test.YtlhhhlimjajnlaaSPd11
import Derived.Test.YtlhhhlimjajnlaaSPd5
import Derived.Test.YtlhhhlimjajnlaaSPd14
section
set_option linter.unusedVariables false
set_option linter.unusedSimpArgs false
namespace Go.Proofs.Ytlhhhlimjajnlaa.P11
open Go Go.RowKit Go.Proofs.Ytlhhhlimjajnlaa Go.Proofs.Ytlhhhlimjajnlaa.Q Go.Proofs.YtlhhhlimjajnlaaW.PrintWords Go.Proofs.Ytlhhhlimjajnlaa.X
theorem valid_at (s : ByteArray) (n : Nat) (hn : n < s.size) : validL (s.data.toList.drop n) = (decide (0 < (runeP s.data.toList n).2) && allowedB (runeP s.data.toList n).1 && validL (s.data.toList.drop (n + (runeP s.data.toList n).2.toNat))) := by
  have hp : runeP s.data.toList (n : Int) = decL (s.data.toList.drop n) := by
    unfold runeP
    rw [if_pos ⟨by omega, by rw [clen]; omega⟩, Int.toNat_natCast]
  rw [hp, cdrop_cons s n hn, valid_cons, ← cdrop_cons s n hn, List.drop_drop]
theorem valid_l0 (d : Nat) : ∀ (s : ByteArray) (k : Nat), s.size = d → s.size ≤ 4294967296 → d + 2 ≤ k → chars_Valid.l0 k s = some (validL s.data.toList) := by
  induction d using Nat.strongRecOn with
  | ind d ih =>
    intro s k hd hs hk
    obtain ⟨k, rfl⟩ : ∃ m, k = m + 2 := ⟨k - 2, by omega⟩
    rw [chars_Valid.l0]
    by_cases hlt : 0 < s.size
    · rw [if_pos (by omega), chars_Rune.f, if_pos hs, Option.bind_some]
      have hv := valid_at s 0 hlt
      have hp : runeP s.data.toList ((0 : Nat) : Int) = decL (s.data.toList.drop 0) := by
        unfold runeP
        rw [if_pos ⟨by omega, by rw [clen]; omega⟩, Int.toNat_natCast]
      have hr := dec_range (s.data.toList.drop 0)
      rw [← hp, List.length_drop, clen] at hr
      rw [List.drop_zero, Nat.zero_add] at hv
      have e0 : ((0 : Nat) : Int) = 0 := rfl
      rw [e0] at hv hr
      rw [hv]
      by_cases h0 : (runeP s.data.toList 0).2 = 0
      · rw [if_pos h0, h0]; rfl
      · rw [if_neg h0, callowed_f, Option.bind_some, show decide (0 < (runeP s.data.toList 0).2) = true from by simp; omega, Bool.true_and]
        by_cases ha : allowedB (runeP s.data.toList 0).1 = true
        · rw [if_pos ha, ha, Bool.true_and, if_pos (by omega), if_pos (by omega)]
          have hdat : (s.extract (runeP s.data.toList 0).2.toNat s.size).data.toList = s.data.toList.drop (runeP s.data.toList 0).2.toNat := by
            rw [Lib.extract_data, List.take_of_length_le (by rw [List.length_drop, clen]; exact Nat.le_refl _)]
          have hsz : (s.extract (runeP s.data.toList 0).2.toNat s.size).size = s.size - (runeP s.data.toList 0).2.toNat := by rw [Lib.size_eq, hdat, List.length_drop, clen]
          rw [← hdat]
          exact ih (s.size - (runeP s.data.toList 0).2.toNat) (by omega) _ _ hsz (by omega) (by omega)
        · rw [if_neg ha, show allowedB (runeP s.data.toList 0).1 = false from by simpa using ha]; rfl
    · have : s.data.toList = [] := List.eq_nil_of_length_eq_zero (by rw [clen]; omega)
      rw [if_neg (by omega), this]; rfl
theorem valid_f (s : ByteArray) (hs : s.size ≤ 4294967296) (k : Nat) : chars_Valid.f (s.size + 2 + k) s = some (validL s.data.toList) := valid_l0 s.size s _ rfl hs (by omega)
end Go.Proofs.Ytlhhhlimjajnlaa.P11
end
section
set_option linter.unusedVariables false
set_option linter.unusedSimpArgs false
namespace Go.Proofs.Ytlhhhlimjajnlaa.X
open Go.RowKit Go.Proofs.Ytlhhhlimjajnlaa Go.Proofs.Ytlhhhlimjajnlaa.Q Go.Proofs.Ytlhhhlimjajnlaa.P11 Go.Proofs.YtlhhhlimjajnlaaW.PrintWords Go.Proofs.YtlhhhlimjajnlaaW.PrintLast Go.Proofs.YtlhhhlimjajnlaaW.PrintMore
variable {w0 W : World} {g : Nat} {d : ByteArray} {a : Int} {ts : List Tok} {x : Bool}
def LexRel (d : ByteArray) (P : Option (List Tok)) (a : Int) (acc : List Tok) : Prop :=
  0 ≤ a ∧ a ≤ (d.size : Int) ∧ (acc.length : Int) ≤ a ∧ ∃ n : Nat, (d.size : Int) - a < n ∧ P = lexF d n a acc
theorem Rd.new (w W : World) (d : ByteArray) (hB : Below w.heap.size w W) : Rd w (W.alloc (.cells #[.string d, .int .i64 0, .slice none 0 0, .bool false] 58)) W.heap.size d 0 [] false :=
  ⟨.slice none 0 0, by simpa using heap_alloc_new W _, hB.size, Kd.R_nil _ _ _ _ _, below_alloc hB _⟩
theorem enters5 : (∀ a w, Sem.run Try.prog (callFunc 37 a) w = .ok (.enter 37 a) w) ∧ (∀ a w, Sem.run Try.prog (callFunc 38 a) w = .ok (.enter 38 a) w) ∧ (∀ a w, Sem.run Try.prog (callFunc 39 a) w = .ok (.enter 39 a) w) ∧ (∀ a w, Sem.run Try.prog (callFunc 40 a) w = .ok (.enter 40 a) w) ∧ (∀ a w, Sem.run Try.prog (callFunc 41 a) w = .ok (.enter 41 a) w) :=
  ⟨fun _ _ => by kernel_rfl, fun _ _ => by kernel_rfl, fun _ _ => by kernel_rfl, fun _ _ => by kernel_rfl, fun _ _ => by kernel_rfl⟩
theorem goes_on (w : World) (h : Rd w0 w g d a ts false) (hG : G w0) (hl : ts.length ≤ 100000) (hs : d.size ≤ 65536) (h0 : 0 ≤ a) (h1 : a < (d.size : Int)) :
    Calls Try.prog (nextK d a) #[.pointer (some ⟨g, 0, none⟩)] w fun e w' => e = .returned (.tuple #[]) ∧ Step w0 w' g d ts (stepP d a) := by
  have hr := fun s hs c => stands_room2 d a s h0 hs c
  unfold nextK stepP
  by_cases c1 : standsB d a ⟨#[60, 33, 45, 45]⟩ = true
  · rw [if_pos c1, if_pos c1]
    have := hr _ (by decide) c1
    rw [show ((⟨#[60, 33, 45, 45]⟩ : ByteArray).size : Int) = 4 from rfl] at this
    exact comment_c w h hG (by omega) (by omega) h0 this
  rw [if_neg c1, if_neg c1]
  by_cases c2 : standsB d a ⟨#[60, 33, 91, 67, 68, 65, 84, 65, 91]⟩ = true
  · rw [if_pos c2, if_pos c2]
    have := hr _ (by decide) c2
    rw [show ((⟨#[60, 33, 91, 67, 68, 65, 84, 65, 91]⟩ : ByteArray).size : Int) = 9 from rfl] at this
    exact plain_c w h hG (by omega) (by omega) h0 this
  rw [if_neg c2, if_neg c2]
  by_cases c3 : standsB d a ⟨#[60, 47]⟩ = true
  · rw [if_pos c3, if_pos c3]
    have := hr _ (by decide) c3
    rw [show ((⟨#[60, 47]⟩ : ByteArray).size : Int) = 2 from rfl] at this
    exact closing_c w h (by omega) (by omega) h0 this
  rw [if_neg c3, if_neg c3]
  by_cases c4 : standsB d a ⟨#[60]⟩ = true
  · rw [if_pos c4, if_pos c4]
    exact tag_c w h hG hl (by omega) h0 (by omega)
  rw [if_neg c4, if_neg c4]
  exact text_c w h hG (by omega) (by omega) h0 (by omega)
theorem enters_next (d : ByteArray) (p : Int) (a : Array Value) (w : World) : Sem.run Try.prog (callFunc (nextK d p) a) w = .ok (.enter (nextK d p) a) w := by
  obtain ⟨e1, e2, e3, e4, e5⟩ := enters5
  unfold nextK
  split
  · exact e1 a w
  · split
    · exact e2 a w
    · split
      · exact e3 a w
      · split
        · exact e4 a w
        · exact e5 a w
set_option maxHeartbeats 16000000 in
set_option maxRecDepth 100000 in
theorem lex_c (w : World) (hG : G w) (d : ByteArray) (hs : d.size ≤ 4294967280) :
    Calls Try.prog 13 #[.string d] w fun e w' => ∃ v, e = .returned (.tuple #[v, .int .i64 (lexV d).2]) ∧ Kd.R k48 48 w' w.heap.size (fun _ => True) v (lexV d).1 ∧ Below w.heap.size w w' := by
  obtain ⟨V, hV⟩ : ∃ V, lexV d = V := ⟨_, rfl⟩
  rw [hV]
  unfold lexV at hV
  by_cases c1 : (65536 : Int) < (d.size : Int)
  · rw [if_pos c1] at hV
    subst hV
    have b1 : decide ((65536 : Int) < (d.size : Int)) = true := decide_eq_true c1
    have b2 := eq_true c1
    go_enter Try.func13, Try.ntmps13
    go_wp2
    first | go_ret | go_ret2 | go_ret3
    exact ⟨_, rfl, Kd.R_nil _ _ _ _ _, by repeat (first | exact Below.refl _ _ | apply pw_below_drewN | apply below_drew | apply below_alloc)⟩
  rw [if_neg c1] at hV
  have b1 : decide ((65536 : Int) < (d.size : Int)) = false := decide_eq_false c1
  have b2 := eq_false c1
  have hsz : d.size ≤ 65536 := by omega
  clear c1
  have hVa : ∀ W, Calls Try.prog 22 #[.string d] W fun e w' => e = .returned (.bool (validL d.data.toList)) ∧ Below W.heap.size W w' := fun W => chars_Valid.calls (d.size + 2 + 0) d _ W (valid_f d (by omega) 0)
  obtain ⟨q, hq⟩ : ∃ q, validL d.data.toList = q := ⟨_, rfl⟩
  rw [hq] at hVa hV
  cases q with
  | false =>
    rw [if_pos rfl] at hV
    subst hV
    go_enter Try.func13, Try.ntmps13
    go_wp2_with (go_at_call 22; (with_reducible refine (hVa _).mono ?_); rintro e w1 ⟨rfl, hb1⟩)
    first | go_ret | go_ret2 | go_ret3
    exact ⟨_, rfl, Kd.R_nil _ _ _ _ _, by repeat (first | exact hb1 | exact Below.refl _ _ | apply pw_below_drewN | apply below_drew | apply below_alloc)⟩
  | true =>
    rw [if_neg (by decide)] at hV
    have hNE := enters_next d
    have hT : LexRel d (lexO d) 0 [] := ⟨by omega, by omega, by simp, ⟨d.size + 1, by omega, rfl⟩⟩
    have HT := Lib.hid hT
    clear hT
    go_enter Try.func13, Try.ntmps13
    go_wp2_with (go_at_call 22; (with_reducible refine (hVa _).mono ?_); rintro e w1 ⟨rfl, hb1⟩)
    have hB1 : Below w.heap.size w w1 := by repeat (first | exact hb1 | apply pw_below_drewN | apply below_drew)
    have HI := Lib.hid (Rd.new w w1 d hB1)
    obtain ⟨g, hg⟩ : ∃ g, w1.heap.size = g := ⟨_, rfl⟩
    rw [hg] at HI ⊢
    clear hb1 hB1
    go_loopw [5] (fun t wr => (Hid (lexO d = none) ∧ ∃ p ts', Hid (Rd w wr g d p ts' true)) ∨ (∃ p acc, Hid (LexRel d (lexO d) p acc) ∧ Hid (Rd w wr g d p acc false))) (fun t wr => ahead d g wr)
    case atStart => exact .inr ⟨_, _, HT, HI⟩
    case round =>
      clear HI HT
      rcases hrel with ⟨hPn, p, ts', HR⟩ | ⟨p, acc, hRel, HR⟩
      · have hc3 := HR.out.c3
        have hc1 := HR.out.c1
        rw [hPn.out] at hV
        have hV' : ([], 15) = V := hV
        subst hV'
        obtain ⟨bb, l1⟩ : ∃ bb, decide (p < (d.size : Int)) = bb := ⟨_, rfl⟩
        cases bb
        all_goals
          go_wp2
          first | go_ret | go_ret2 | go_ret3
          exact ⟨_, rfl, Kd.R_nil _ _ _ _ _, by first | exact HR.out.bel | exact (HR.out.drewN _).bel | exact HR.out.drew.bel⟩
      · have hmeas := Lib.hid HR.out.ahead_
        obtain ⟨r1, r2, r3, n, hn, hPn⟩ := hRel.out
        have hc3 := HR.out.c3
        have hc1 := HR.out.c1
        cases n with
        | zero => omega
        | succ n =>
        unfold lexF at hPn
        by_cases hlt : p < (d.size : Int)
        · rw [if_pos hlt] at hPn
          have l1 : decide (p < (d.size : Int)) = true := decide_eq_true hlt
          have l2 := eq_true hlt
          obtain ⟨K, hK⟩ : ∃ K, nextK d p = K := ⟨_, rfl⟩
          have hNx : ∀ W, Rd w W g d p acc false → Calls Try.prog 23 #[.pointer (some ⟨g, 0, none⟩)] W fun e w' => e = .returned (.func (.func K) #[.pointer (some ⟨g, 0, none⟩)] #[]) ∧ Below W.heap.size W w' := fun W h => by rw [← hK]; exact next_c W h r1
          have hGo : ∀ W, Rd w W g d p acc false → Calls Try.prog K #[.pointer (some ⟨g, 0, none⟩)] W fun e w' => e = .returned (.tuple #[]) ∧ Step w w' g d acc (stepP d p) := fun W h => by rw [← hK]; exact goes_on W h hG (by omega) hsz r1 hlt
          have hEn : ∀ (a : Array Value) (w : World), Sem.run Try.prog (callFunc K a) w = .ok (.enter K a) w := fun a w => by rw [← hK]; exact enters_next d p a w
          go_wp2_with (go_at_call 23; (with_reducible refine (hNx _ (by first | exact HR.out | exact HR.out.drewN _)).mono ?_); rintro e w3 ⟨rfl, hb_⟩; have H3 := Lib.hid (show Rd w w3 g d p acc false from by first | exact HR.out.below hb_ | exact (HR.out.drewN _).below hb_); clear hb_)
          go_wp2_with ((with_reducible refine (hGo _ (by first | exact H3.out | exact H3.out.drewN _)).mono ?_); rintro e w4 ⟨rfl, ht⟩)
          cases hS : stepP d p with
          | none =>
            rw [hS] at ht hPn
            obtain ⟨a', ts', ht⟩ := ht
            have HA := Lib.hid ht
            have HP := Lib.hid hPn
            clear ht hPn hV
            go_wp2
            go_roundw
            case rel => first | exact .inl ⟨HP, _, _, HA⟩ | exact .inl ⟨_, _, HA⟩
            case measure => rw [hmeas.out, HA.out.ahead_]; simp only [Bool.false_eq_true, if_false, if_true]; omega
          | some v =>
            obtain ⟨new, a'⟩ := v
            rw [hS] at ht hPn
            have hroom := step_room d p r1 hlt new a' hS
            have HA := Lib.hid (show Rd w w4 g d a' (acc ++ new) false from ht)
            have HP := Lib.hid hPn
            clear ht hPn hV
            go_wp2
            go_roundw
            case rel => exact .inr ⟨_, _, Lib.hid ⟨by omega, hroom.2.1, by rw [List.length_append]; omega, ⟨n, by omega, HP.out⟩⟩, HA⟩
            case measure => rw [hmeas.out, HA.out.ahead_]; simp only [Bool.false_eq_true, if_false, if_true]; omega
        · rw [if_neg hlt] at hPn
          have l1 : decide (p < (d.size : Int)) = false := decide_eq_false hlt
          have l2 := eq_false hlt
          rw [hPn] at hV
          have hV' : (acc, 0) = V := hV
          subst hV'
          obtain ⟨v, h1, h2, h3, h4⟩ := HR.out
          obtain ⟨A, c, rfl, -, -⟩ := Kd.R_reads h3
          have hc2 : wr.cell? ⟨g, 2, none⟩ = some (.slice A acc.length c) := (blk_cell h1 2).trans rfl
          have H5 := Lib.hid h3
          have H6 := Lib.hid h4
          clear h1 h3 h4
          go_wp2
          first | go_ret | go_ret2 | go_ret3
          exact ⟨_, rfl, Kd.R_mono (by first | exact H5.out | exact Kd.R_drewN H5.out _ | exact Kd.R_drew H5.out) (fun _ _ => trivial), by first | exact H6.out | exact pw_below_drewN H6.out _⟩
def lexer_Lex.f (a0 : ByteArray) : Option (List Tok × Int) := if a0.size ≤ 4294967280 then some (lexV a0) else none
theorem lexer_Lex.calls (a0 : ByteArray) (r1 : List Tok) (r2 : Int) (w : World) (hG : G w) (h : lexer_Lex.f a0 = some (r1, r2)) :
    Calls Try.prog 13 #[.string a0] w fun e w' => ∃ v0_ : Value, e = .returned (.tuple #[v0_, .int .i64 r2]) ∧ Kd.R k48 48 w' w.heap.size (fun _ => True) v0_ r1 ∧ Below w.heap.size w w' := by
  unfold lexer_Lex.f at h
  split at h
  · rename_i hs
    have h := Option.some.inj h
    have h1 : r1 = (lexV a0).1 := by rw [h]
    have h2 : r2 = (lexV a0).2 := by rw [h]
    subst h1 h2
    exact lex_c w hG a0 hs
  · cases h
end Go.Proofs.Ytlhhhlimjajnlaa.X
end
