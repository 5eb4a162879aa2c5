/- Parts of the proof of lexerWrites_holds, kept and merged by a program of mine (wip/tools/slim.py) out of my texts: LexA EscA LexH -/
import Derived.Handy
import Derived.WalkMore
import Derived.Test.YtjlgenefjebcaaaSLw4
import Derived.Test.YtjlgenefjebcaaaSLw5
import Derived.Test.YtjlgenefjebcaaaSLw7
import Derived.Test.YtjlgenefjebcaaaSLw8
import Derived.Test.YtjlgenefjebcaaaSLw6
import Derived.Test.YtjlgenefjebcaaaSLw1
section
set_option linter.unusedVariables false
set_option linter.unusedSimpArgs false
namespace Go.Proofs.Ytjlgenefjebcaaa.X
open Go.RowKit Go.Proofs.Ytjlgenefjebcaaa Go.Proofs.Ytjlgenefjebcaaa.Q Go.Proofs.YtjlgenefjebcaaaW.PrintWords Go.Proofs.YtjlgenefjebcaaaW.PrintLast Go.Proofs.YtjlgenefjebcaaaW.PrintMore
attribute [local go_sem] max2_int min2_int max_two min_two   
abbrev Tok := S41
theorem infoTok : (Try.prog.info? 41).map (fun i => (i.zero, i.size, i.bytes)) = some (some (.agg #[(.int .i64 0), (.int .i64 0), (.int .i64 0), (.string ⟨#[]⟩), (.string ⟨#[]⟩)]), 5, 56) := by kernel_rfl
def Rd (w0 W : World) (g : Nat) (d : ByteArray) (a : Int) (ts : List Tok) (x : Bool) : Prop :=
  ∃ v, W.heap[g]? = some (.cells #[.string d, .int .i64 a, v, .bool x] 68 (0, 0)) ∧ w0.heap.size ≤ g ∧ Kd.R k41 41 W w0.heap.size (fun k => k ≠ g) v ts ∧ Below w0.heap.size w0 W
variable {w0 W : World} {g : Nat} {d : ByteArray} {a : Int} {ts : List Tok} {x : Bool}
theorem Rd.below (h : Rd w0 W g d a ts x) {W1 : World} (hb : Below W.heap.size W W1) : Rd w0 W1 g d a ts x := by
  obtain ⟨v, h1, h2, h3, h4⟩ := h
  exact ⟨v, blk_below h1 hb, h2, Kd.R_below h3 hb, below_step h4 hb⟩
theorem Rd.alloc (h : Rd w0 W g d a ts x) (o : Obj) : Rd w0 (W.alloc o) g d a ts x := h.below (below_alloc (Below.refl _ _) o)
theorem Rd.drewN (h : Rd w0 W g d a ts x) (m : Nat) : Rd w0 (W.drewN m) g d a ts x := h.below (pw_below_drewN (Below.refl _ _) m)
theorem Rd.drew (h : Rd w0 W g d a ts x) : Rd w0 W.drew g d a ts x := h.below (below_drew (Below.refl _ _))
theorem Rd.lt (h : Rd w0 W g d a ts x) : g < W.heap.size := by obtain ⟨v, h1, _⟩ := h; exact blk_lt h1
theorem Rd.bel (h : Rd w0 W g d a ts x) : Below w0.heap.size w0 W := by obtain ⟨v, _, _, _, h4⟩ := h; exact h4
theorem Rd.c0 (h : Rd w0 W g d a ts x) : W.cell? ⟨g, 0, none⟩ = some (.string d) := by obtain ⟨v, h1, _⟩ := h; exact (blk_cell h1 0).trans rfl
theorem Rd.c1 (h : Rd w0 W g d a ts x) : W.cell? ⟨g, 1, none⟩ = some (.int .i64 a) := by obtain ⟨v, h1, _⟩ := h; exact (blk_cell h1 1).trans rfl
theorem Rd.c3 (h : Rd w0 W g d a ts x) : W.cell? ⟨g, 3, none⟩ = some (.bool x) := by obtain ⟨v, h1, _⟩ := h; exact (blk_cell h1 3).trans rfl
theorem Rd.f (h : Rd w0 W g d a ts x) (i : Nat) : W.frozen? ⟨g, i, none⟩ = false := by obtain ⟨v, h1, _⟩ := h; exact blk_frozen h1 i
theorem Rd.set1 (h : Rd w0 W g d a ts x) (y : Int) : Rd w0 (W.setCell ⟨g, 1, none⟩ (.int .i64 y)) g d y ts x := by
  obtain ⟨v, h1, h2, h3, h4⟩ := h
  exact ⟨v, by simpa using blk_set h1 1 (.int .i64 y), h2, Kd.R_far (p := ⟨g, 1, none⟩) h3 (fun _ hk => hk) _, h4.setCell h2 _⟩
theorem Rd.set3 (h : Rd w0 W g d a ts x) (y : Bool) : Rd w0 (W.setCell ⟨g, 3, none⟩ (.bool y)) g d a ts y := by
  obtain ⟨v, h1, h2, h3, h4⟩ := h
  exact ⟨v, by simpa using blk_set h1 3 (.bool y), h2, Kd.R_far (p := ⟨g, 3, none⟩) h3 (fun _ hk => hk) _, h4.setCell h2 _⟩
def G (w : World) : Prop := ∃ m, w.cell? ⟨0, 0, none⟩ = some (.int .i64 m)
theorem G.below {w w1 : World} (h : G w) (hb : Below w.heap.size w w1) : G w1 := by
  obtain ⟨m, hm⟩ := h
  have hlt := World.block_lt_of_cell? _ _ hm
  refine ⟨m, ?_⟩
  rw [← hm]
  unfold World.cell?
  have := hb.block 0 hlt
  simp only [this]
set_option maxHeartbeats 4000000 in
set_option maxRecDepth 100000 in
theorem left_c (w : World) (h : Rd w0 w g d a ts x) (h0 : 0 ≤ a) (h1 : a ≤ (d.size : Int)) :
    Calls Try.prog 66 #[.pointer (some ⟨g, 0, none⟩)] w fun e w' => e = .returned (.string (d.extract a.toNat d.size)) ∧ ∃ n, w' = w.drewN n := by
  have hc0 := h.c0
  have hc1 := h.c1
  have e0 : decide (0 ≤ a) = true := decide_eq_true h0
  have e1 : decide (a ≤ (d.size : Int)) = true := decide_eq_true h1
  have e2 := eq_true h0
  have e3 := eq_true h1
  go_enter Try.func66, Try.ntmps66
  go_wp2
  repeat (go_quiet (fail); try go_wp2)
  go_ret
  exact ⟨rfl, _, rfl⟩
set_option maxHeartbeats 4000000 in
set_option maxRecDepth 100000 in
theorem fails_c (w : World) (h : Rd w0 w g d a ts x) :
    Calls Try.prog 68 #[.pointer (some ⟨g, 0, none⟩)] w fun e w' => e = .returned (.tuple #[]) ∧ Rd w0 w' g d a ts true := by
  have hc3 := h.c3
  have hf3 := h.f 3
  have H := Lib.hid h
  clear h
  go_enter Try.func68, Try.ntmps68
  go_wp2
  first | go_end0 | ((try simp only [Exit.inBlock, Exit.then]); refine bodyPost_ret (results_none rfl _ _ _) rfl ?_)
  exact ⟨rfl, by first | exact (H.out.drew).set3 true | exact (H.out).set3 true | exact ((H.out).set3 true).drew⟩
set_option maxHeartbeats 8000000 in
set_option maxRecDepth 100000 in
theorem tell_c (w : World) (h : Rd w0 w g d a ts x) (kind frm til : Int) (nm vl : ByteArray) (hl : ts.length ≤ 1000000) :
    Calls Try.prog 69 #[.pointer (some ⟨g, 0, none⟩), .int .i64 kind, .int .i64 frm, .int .i64 til, .string nm, .string vl] w fun e w' => e = .returned (.tuple #[]) ∧ Rd w0 w' g d til (ts ++ [⟨kind, frm, til, nm, vl⟩]) x := by
  have hlt := h.lt
  have hf2 := h.f 2
  obtain ⟨v, h1, h2, h3, h4⟩ := h
  have hc2 : w.cell? ⟨g, 2, none⟩ = some v := (blk_cell h1 2).trans rfl
  have hbs := h4.size
  have H1 := Lib.hid h1
  have H3 := Lib.hid h3
  have H4 := Lib.hid h4
  have HL := Lib.hid hl
  clear h1 h3 h4 hl
  go_enter Try.func69, Try.ntmps69
  go_wp2_with (at_builtin; refine Kd.R_append k41 (w0 := w0) w0.heap.size rfl (.tmp 16) (.tmp 23) 36 41 (.agg #[(.int .i64 0), (.int .i64 0), (.int .i64 0), (.string ⟨#[]⟩), (.string ⟨#[]⟩)]) 56 rfl Try.underlying36 infoTok rfl (by decide) (by omega) v ts (⟨kind, frm, til, nm, vl⟩ : Tok) [.int .i64 kind, .int .i64 frm, .int .i64 til, .string nm, .string vl] (fun k => k ≠ g) (fun _ => False) rfl rfl ?aP (fun _ hk => hk.elim) ?aF ?aO ?aB ?aS ?aL ?_)
  case aP => exact k41_mkM _ _ _ (⟨kind, frm, til, nm, vl⟩ : Tok)
  case aF => exact (fun k hk => by have : w.heap.size ≤ k := hk; omega)
  case aO => exact (by (with_reducible repeat (first | apply Kd.R_alloc | apply Kd.R_drewN | apply Kd.R_drew)); exact H3.out)
  case aB => exact (by repeat (first | (with_reducible first | exact H4.out | apply below_alloc | apply pw_below_drewN | apply below_drew1) | exact H4.out))
  case aS => exact hbs
  case aL => have := HL.out; omega
  intro v1 w1 ho hb hg hat
  obtain ⟨A1, c1, rfl, -, -⟩ := Kd.R_reads ho
  rw [show (ts ++ [(⟨kind, frm, til, nm, vl⟩ : Tok)]).length = ts.length + 1 from by simp] at ho ⊢
  obtain ⟨v1, hv1⟩ : ∃ v1, Value.slice A1 (ts.length + 1) c1 = v1 := ⟨_, rfl⟩
  have hne : some g ≠ v.ownBlock := fun e => H3.out.1 g e.symm rfl
  have h5 : w1.heap[g]? = some (.cells #[.string d, .int .i64 a, v, .bool x] 68 (0, 0)) := blk_grown (by first | exact H1.out | exact blk_drew H1.out | exact blk_drewN H1.out _) hg hne
  have hc2' : w1.cell? ⟨g, 2, none⟩ = some v := (blk_cell h5 2).trans rfl
  have hf2' := blk_frozen h5 2
  have hd : (w1.setCell ⟨g, 2, none⟩ v1).heap[g]? = some (.cells #[.string d, .int .i64 a, v1, .bool x] 68 (0, 0)) := by simpa [hv1] using blk_set h5 2 v1
  have HR : Rd w0 (w1.setCell ⟨g, 2, none⟩ v1) g d a (ts ++ [⟨kind, frm, til, nm, vl⟩]) x := ⟨v1, hd, h2, Kd.R_far (p := ⟨g, 2, none⟩) (hv1 ▸ ho) (fun _ hk => hk) _, hb.setCell h2 _⟩
  have HR' := Lib.hid HR
  have hc1 : w1.cell? ⟨g, 1, none⟩ = some (.int .i64 a) := (blk_cell h5 1).trans rfl
  have hf1 := blk_frozen h5 1
  clear HR hd h5 ho hb hg hat H1 H3 H4
  subst hv1
  go_wp2
  first | go_end0 | ((try simp only [Exit.inBlock, Exit.then]); refine bodyPost_ret (results_none rfl _ _ _) rfl ?_)
  exact ⟨rfl, by first | exact HR'.out.set1 til | exact (HR'.out.drew).set1 til | exact (HR'.out.drewN _).set1 til⟩
def standsB (d : ByteArray) (i : Int) (s : ByteArray) : Bool := Lib.hasPrefix (d.data.toList.drop i.toNat) s.data.toList
set_option maxHeartbeats 8000000 in
set_option maxRecDepth 100000 in
theorem stands_c (w : World) (h : Rd w0 w g d a ts x) (i : Int) (s : ByteArray) (h0 : 0 ≤ i) :
    Calls Try.prog 55 #[.pointer (some ⟨g, 0, none⟩), .int .i64 i, .string s] w fun e w' => e = .returned (.bool (standsB d i s)) ∧ ∃ n, w' = w.drewN n := by
  have hc0 := h.c0
  obtain ⟨j, hj⟩ : ∃ j : Int, (if (d.size : Int) < i then (d.size : Int) else i) = j := ⟨_, rfl⟩
  have hj0 : 0 ≤ j := by rw [← hj]; split <;> omega
  have hj1 : j ≤ (d.size : Int) := by rw [← hj]; split <;> omega
  have hdr : Lib.hasPrefix (d.extract j.toNat d.size).data.toList s.data.toList = standsB d i s := by
    unfold standsB
    congr 1
    rw [Lib.extract_data]
    have hl : d.data.toList.length = d.size := (Lib.size_eq d).symm
    rw [List.take_of_length_le (by rw [List.length_drop]; omega)]
    by_cases c : (d.size : Int) < i
    · rw [if_pos c] at hj
      rw [List.drop_of_length_le (by omega), List.drop_of_length_le (by omega)]
    · rw [if_neg c] at hj
      rw [hj]
  have e0 : decide (0 ≤ j) = true := decide_eq_true hj0
  have e1 : decide (j ≤ (d.size : Int)) = true := decide_eq_true hj1
  have e2 := eq_true hj0
  have e3 := eq_true hj1
  have hP : ∀ W : World, Calls Try.prog 65 #[.string (d.extract j.toNat d.size), .string s] W fun e w' => e = .returned (.bool (standsB d i s)) ∧ Drawn0 W w' := fun W =>
    (Try.strings_HasPrefix (d.extract j.toNat d.size) s W).mono fun e w' he => ⟨by rw [he.1, hdr], 0, by rw [he.2]; rfl⟩
  have HD := Lib.hid hdr
  clear hdr
  go_enter Try.func55, Try.ntmps55
  go_wp2_with (first | (go_at_call 65; (with_reducible refine (hP _).mono ?_); rintro e w' ⟨rfl, ⟨nd, rfl⟩⟩; (try first | exact ⟨rfl, _, World.drewN_drewN _ _ _⟩ | exact ⟨rfl, _, Eq.trans (World.drewN_drewN _ _ _) (congrArg (World.drewN _) (Nat.add_assoc _ _ _))⟩)))
  repeat (go_quiet (first | (go_at_call 65; (with_reducible refine (hP _).mono ?_); rintro e w' ⟨rfl, ⟨nd, rfl⟩⟩; (try first | exact ⟨rfl, _, World.drewN_drewN _ _ _⟩ | exact ⟨rfl, _, Eq.trans (World.drewN_drewN _ _ _) (congrArg (World.drewN _) (Nat.add_assoc _ _ _))⟩))); try go_wp2_with (first | (go_at_call 65; (with_reducible refine (hP _).mono ?_); rintro e w' ⟨rfl, ⟨nd, rfl⟩⟩; (try first | exact ⟨rfl, _, World.drewN_drewN _ _ _⟩ | exact ⟨rfl, _, Eq.trans (World.drewN_drewN _ _ _) (congrArg (World.drewN _) (Nat.add_assoc _ _ _))⟩))))
  go_ret
  exact ⟨rfl, _, rfl⟩
end Go.Proofs.Ytjlgenefjebcaaa.X
end
section
set_option linter.unusedVariables false
set_option linter.unusedSimpArgs false
namespace Go.Proofs.Ytjlgenefjebcaaa
open Go.RowKit
theorem newBuilder (w : World) : Lib.IsBuilder 57 5 w.heap.size w.heap.size [] (w.alloc (.cells #[.pointer none, .slice none 0 0] 57)) :=
  .inl ⟨Nat.le_refl _, .slice none 0 0, heap_alloc_new w _, ⟨by simp, .inl ⟨rfl, rfl⟩⟩, by simp [Value.ownBlock]⟩
end Go.Proofs.Ytjlgenefjebcaaa
end
section
set_option linter.unusedVariables false
set_option linter.unusedSimpArgs false
namespace Go.Proofs.Ytjlgenefjebcaaa.X
open Go.RowKit Go.Proofs.Ytjlgenefjebcaaa Go.Proofs.Ytjlgenefjebcaaa.Q Go.Proofs.YtjlgenefjebcaaaW.PrintWords Go.Proofs.YtjlgenefjebcaaaW.PrintLast Go.Proofs.YtjlgenefjebcaaaW.PrintMore
variable {w0 W : World} {g : Nat} {d : ByteArray} {a : Int} {ts : List Tok} {x : Bool}
theorem entersB (a : Array Value) (w : World) : Sem.run Try.prog (callFunc 54 a) w = .ok (.enter 54 a) w := by kernel_rfl
set_option maxHeartbeats 4000000 in
set_option maxRecDepth 100000 in
theorem begins_c (w : World) (h : Rd w0 w g d a ts x) (b : Nat) (hb : w.cell? ⟨b, 0, none⟩ = some (.pointer (some ⟨g, 0, none⟩))) (s : ByteArray) (h0 : 0 ≤ a) :
    Calls Try.prog 54 #[.string s, .pointer (some ⟨b, 0, none⟩)] w fun e w' => e = .returned (.bool (standsB d a s)) ∧ ∃ n, w' = w.drewN n := by
  have hc1 := h.c1
  have H := Lib.hid h
  have hP : ∀ W : World, Rd w0 W g d a ts x → Calls Try.prog 55 #[.pointer (some ⟨g, 0, none⟩), .int .i64 a, .string s] W fun e w' => e = .returned (.bool (standsB d a s)) ∧ Drawn0 W w' := fun W hW =>
    (stands_c W hW a s h0).mono fun e w' he => ⟨he.1, by obtain ⟨n, hn⟩ := he.2; exact ⟨n, hn⟩⟩
  clear h
  go_enter Try.func54, Try.ntmps54
  go_wp2_with (first | (go_at_call 55; (with_reducible refine (hP _ (by first | exact H.out | exact H.out.drewN _ | exact H.out.drew)).mono ?_); rintro e w' ⟨rfl, ⟨nd, rfl⟩⟩; (try first | exact ⟨rfl, _, World.drewN_drewN _ _ _⟩ | exact ⟨rfl, _, Eq.trans (World.drewN_drewN _ _ _) (congrArg (World.drewN _) (Nat.add_assoc _ _ _))⟩)))
  repeat (go_quiet (first | (go_at_call 55; (with_reducible refine (hP _ (by first | exact H.out | exact H.out.drewN _ | exact H.out.drew)).mono ?_); rintro e w' ⟨rfl, ⟨nd, rfl⟩⟩; (try first | exact ⟨rfl, _, World.drewN_drewN _ _ _⟩ | exact ⟨rfl, _, Eq.trans (World.drewN_drewN _ _ _) (congrArg (World.drewN _) (Nat.add_assoc _ _ _))⟩))); try go_wp2)
  go_ret
  exact ⟨rfl, _, rfl⟩
def nextK (d : ByteArray) (a : Int) : Nat :=
  if standsB d a ⟨#[60, 33, 45, 45]⟩ = true then 56
  else if standsB d a ⟨#[60, 33, 91, 67, 68, 65, 84, 65, 91]⟩ = true then 57
  else if standsB d a ⟨#[60, 47]⟩ = true then 58
  else if standsB d a ⟨#[60]⟩ = true then 59
  else 60
set_option maxHeartbeats 8000000 in
set_option maxRecDepth 100000 in
theorem next_c (w : World) (h : Rd w0 w g d a ts x) (h0 : 0 ≤ a) :
    Calls Try.prog 43 #[.pointer (some ⟨g, 0, none⟩)] w fun e w' => e = .returned (.func (.func (nextK d a)) #[.pointer (some ⟨g, 0, none⟩)] #[]) ∧ Below w.heap.size w w' := by
  have H := Lib.hid h
  have hE := entersB
  obtain ⟨k, hk⟩ : ∃ k, nextK d a = k := ⟨_, rfl⟩
  rw [hk]
  unfold nextK at hk
  obtain ⟨s1, hs1⟩ : ∃ s, standsB d a ⟨#[60, 33, 45, 45]⟩ = s := ⟨_, rfl⟩
  obtain ⟨s2, hs2⟩ : ∃ s, standsB d a ⟨#[60, 33, 91, 67, 68, 65, 84, 65, 91]⟩ = s := ⟨_, rfl⟩
  obtain ⟨s3, hs3⟩ : ∃ s, standsB d a ⟨#[60, 47]⟩ = s := ⟨_, rfl⟩
  obtain ⟨s4, hs4⟩ : ∃ s, standsB d a ⟨#[60]⟩ = s := ⟨_, rfl⟩
  rw [hs1, hs2, hs3, hs4] at hk
  clear h
  cases s1 with
  | true =>
    rw [if_pos rfl] at hk
    subst hk
    go_enter Try.func43, Try.ntmps43
    go_wp2_with (go_at_call 54; (with_reducible refine (begins_c (w0 := w0) (g := g) (d := d) (a := a) (ts := ts) (x := x) _ (by first | exact H.out.alloc _ | exact (H.out.alloc _).drewN _ | exact ((H.out.alloc _).drewN _).drewN _ | exact (((H.out.alloc _).drewN _).drewN _).drewN _) w.heap.size (by simp [World.cell?_alloc_some]) _ h0).mono ?_); rintro e w' ⟨rfl, n_, rfl⟩)
    go_ret
    exact ⟨rfl, by repeat (first | exact Below.refl _ _ | apply pw_below_drewN | apply below_drew | apply below_alloc)⟩
  | false =>
  rw [if_neg (by decide)] at hk
  cases s2 with
  | true =>
    rw [if_pos rfl] at hk
    subst hk
    go_enter Try.func43, Try.ntmps43
    go_wp2_with (go_at_call 54; (with_reducible refine (begins_c (w0 := w0) (g := g) (d := d) (a := a) (ts := ts) (x := x) _ (by first | exact H.out.alloc _ | exact (H.out.alloc _).drewN _ | exact ((H.out.alloc _).drewN _).drewN _ | exact (((H.out.alloc _).drewN _).drewN _).drewN _) w.heap.size (by simp [World.cell?_alloc_some]) _ h0).mono ?_); rintro e w' ⟨rfl, n_, rfl⟩)
    go_ret
    exact ⟨rfl, by repeat (first | exact Below.refl _ _ | apply pw_below_drewN | apply below_drew | apply below_alloc)⟩
  | false =>
  rw [if_neg (by decide)] at hk
  cases s3 with
  | true =>
    rw [if_pos rfl] at hk
    subst hk
    go_enter Try.func43, Try.ntmps43
    go_wp2_with (go_at_call 54; (with_reducible refine (begins_c (w0 := w0) (g := g) (d := d) (a := a) (ts := ts) (x := x) _ (by first | exact H.out.alloc _ | exact (H.out.alloc _).drewN _ | exact ((H.out.alloc _).drewN _).drewN _ | exact (((H.out.alloc _).drewN _).drewN _).drewN _) w.heap.size (by simp [World.cell?_alloc_some]) _ h0).mono ?_); rintro e w' ⟨rfl, n_, rfl⟩)
    go_ret
    exact ⟨rfl, by repeat (first | exact Below.refl _ _ | apply pw_below_drewN | apply below_drew | apply below_alloc)⟩
  | false =>
  rw [if_neg (by decide)] at hk
  cases s4 with
  | true =>
    rw [if_pos rfl] at hk
    subst hk
    go_enter Try.func43, Try.ntmps43
    go_wp2_with (go_at_call 54; (with_reducible refine (begins_c (w0 := w0) (g := g) (d := d) (a := a) (ts := ts) (x := x) _ (by first | exact H.out.alloc _ | exact (H.out.alloc _).drewN _ | exact ((H.out.alloc _).drewN _).drewN _ | exact (((H.out.alloc _).drewN _).drewN _).drewN _) w.heap.size (by simp [World.cell?_alloc_some]) _ h0).mono ?_); rintro e w' ⟨rfl, n_, rfl⟩)
    go_ret
    exact ⟨rfl, by repeat (first | exact Below.refl _ _ | apply pw_below_drewN | apply below_drew | apply below_alloc)⟩
  | false =>
    rw [if_neg (by decide)] at hk
    subst hk
    go_enter Try.func43, Try.ntmps43
    go_wp2_with (go_at_call 54; (with_reducible refine (begins_c (w0 := w0) (g := g) (d := d) (a := a) (ts := ts) (x := x) _ (by first | exact H.out.alloc _ | exact (H.out.alloc _).drewN _ | exact ((H.out.alloc _).drewN _).drewN _ | exact (((H.out.alloc _).drewN _).drewN _).drewN _) w.heap.size (by simp [World.cell?_alloc_some]) _ h0).mono ?_); rintro e w' ⟨rfl, n_, rfl⟩)
    go_ret
    exact ⟨rfl, by repeat (first | exact Below.refl _ _ | apply pw_below_drewN | apply below_drew | apply below_alloc)⟩
end Go.Proofs.Ytjlgenefjebcaaa.X
end
