/- Parts of the proof of canonDocs_holds, kept and merged by a program of mine (wip/tools/slim.py) out of my texts: LexA ParSpec CanS CanW ParA EscA Esc LexH Ck P14c P14d P14g -/
import Derived.Test.YtlhhhlimjajnlaaGreatSDc0
import Derived.Handy
import Derived.WalkMore
import Derived.Deep.RegionWith
import Derived.Deep.RegionHeld3
import Derived.Deep.RegionLaw
import Derived.Test.YtlhhhlimjajnlaaGreatSDc4
import Derived.Test.YtlhhhlimjajnlaaGreatSDc5
import Derived.Test.YtlhhhlimjajnlaaGreatSDc7
import Derived.Test.YtlhhhlimjajnlaaGreatSDc8
import Derived.Test.YtlhhhlimjajnlaaGreatSDc6
import Derived.Test.YtlhhhlimjajnlaaGreatSDc1
section
set_option linter.unusedVariables false
set_option linter.unusedSimpArgs false
namespace Go.Proofs.YtlhhhlimjajnlaaGreat.X
open Go.RowKit Go.Proofs.YtlhhhlimjajnlaaGreat Go.Proofs.YtlhhhlimjajnlaaGreat.Q Go.Proofs.YtlhhhlimjajnlaaGreatW.PrintWords Go.Proofs.YtlhhhlimjajnlaaGreatW.PrintLast Go.Proofs.YtlhhhlimjajnlaaGreatW.PrintMore
attribute [local go_sem] max2_int min2_int max_two min_two   
abbrev Tok := S51
theorem infoTok : (Tryz.prog.info? 51).map (fun i => (i.zero, i.size, i.bytes)) = some (some (.agg #[(.int .i64 0), (.int .i64 0), (.int .i64 0), (.string ⟨#[]⟩), (.string ⟨#[]⟩)]), 5, 56) := by kernel_rfl
def Rd (w0 W : World) (g : Nat) (d : ByteArray) (a : Int) (ts : List Tok) (x : Bool) : Prop :=
 ∃ v, W.heap[g]? = some (.cells #[.string d, .int .i64 a, v, .bool x] 91 (0, 0)) ∧ w0.heap.size ≤ g ∧ Kd.R k51 51 W w0.heap.size (fun k => k ≠ g) v ts ∧ Below w0.heap.size w0 W
variable {w0 W : World} {g : Nat} {d : ByteArray} {a : Int} {ts : List Tok} {x : Bool}
theorem Rd.below (h : Rd w0 W g d a ts x) {W1 : World} (hb : Below W.heap.size W W1) : Rd w0 W1 g d a ts x := by
 obtain ⟨v, h1, h2, h3, h4⟩ := h
 exact ⟨v, blk_below h1 hb, h2, Kd.R_below h3 hb, below_step h4 hb⟩
theorem Rd.alloc (h : Rd w0 W g d a ts x) (o : Obj) : Rd w0 (W.alloc o) g d a ts x := h.below (below_alloc (Below.refl _ _) o)
theorem Rd.drewN (h : Rd w0 W g d a ts x) (m : Nat) : Rd w0 (W.drewN m) g d a ts x := h.below (pw_below_drewN (Below.refl _ _) m)
theorem Rd.drew (h : Rd w0 W g d a ts x) : Rd w0 W.drew g d a ts x := h.below (below_drew (Below.refl _ _))
theorem Rd.lt (h : Rd w0 W g d a ts x) : g < W.heap.size := by obtain ⟨v, h1, _⟩ := h; exact blk_lt h1
theorem Rd.bel (h : Rd w0 W g d a ts x) : Below w0.heap.size w0 W := by obtain ⟨v, _, _, _, h4⟩ := h; exact h4
theorem Rd.c0 (h : Rd w0 W g d a ts x) : W.cell? ⟨g, 0, none⟩ = some (.string d) := by obtain ⟨v, h1, _⟩ := h; exact (blk_cell h1 0).trans rfl
theorem Rd.c1 (h : Rd w0 W g d a ts x) : W.cell? ⟨g, 1, none⟩ = some (.int .i64 a) := by obtain ⟨v, h1, _⟩ := h; exact (blk_cell h1 1).trans rfl
theorem Rd.c3 (h : Rd w0 W g d a ts x) : W.cell? ⟨g, 3, none⟩ = some (.bool x) := by obtain ⟨v, h1, _⟩ := h; exact (blk_cell h1 3).trans rfl
theorem Rd.f (h : Rd w0 W g d a ts x) (i : Nat) : W.frozen? ⟨g, i, none⟩ = false := by obtain ⟨v, h1, _⟩ := h; exact blk_frozen h1 i
theorem Rd.set1 (h : Rd w0 W g d a ts x) (y : Int) : Rd w0 (W.setCell ⟨g, 1, none⟩ (.int .i64 y)) g d y ts x := by
 obtain ⟨v, h1, h2, h3, h4⟩ := h
 exact ⟨v, by simpa using blk_set h1 1 (.int .i64 y), h2, Kd.R_far (p := ⟨g, 1, none⟩) h3 (fun _ hk => hk) _, h4.setCell h2 _⟩
theorem Rd.set3 (h : Rd w0 W g d a ts x) (y : Bool) : Rd w0 (W.setCell ⟨g, 3, none⟩ (.bool y)) g d a ts y := by
 obtain ⟨v, h1, h2, h3, h4⟩ := h
 exact ⟨v, by simpa using blk_set h1 3 (.bool y), h2, Kd.R_far (p := ⟨g, 3, none⟩) h3 (fun _ hk => hk) _, h4.setCell h2 _⟩
def G (w : World) : Prop := ∃ m, w.cell? ⟨0, 0, none⟩ = some (.int .i64 m)
theorem G.below {w w1 : World} (h : G w) (hb : Below w.heap.size w w1) : G w1 := by
 obtain ⟨m, hm⟩ := h
 have hlt := World.block_lt_of_cell? _ _ hm
 refine ⟨m, ?_⟩
 rw [← hm]
 unfold World.cell?
 have := hb.block 0 hlt
 simp only [this]
set_option maxHeartbeats 4000000 in
set_option maxRecDepth 100000 in
theorem left_c (w : World) (h : Rd w0 w g d a ts x) (h0 : 0 ≤ a) (h1 : a ≤ (d.size : Int)) :
 Calls Tryz.prog 105 #[.pointer (some ⟨g, 0, none⟩)] w fun e w' => e = .returned (.string (d.extract a.toNat d.size)) ∧ ∃ n, w' = w.drewN n := by
 have hc0 := h.c0
 have hc1 := h.c1
 have e0 : decide (0 ≤ a) = true := decide_eq_true h0
 have e1 : decide (a ≤ (d.size : Int)) = true := decide_eq_true h1
 have e2 := eq_true h0
 have e3 := eq_true h1
 go_enter Tryz.func105, Tryz.ntmps105
 go_wp2
 repeat (go_quiet (fail); try go_wp2)
 go_ret
 exact ⟨rfl, _, rfl⟩
set_option maxHeartbeats 4000000 in
set_option maxRecDepth 100000 in
theorem fails_c (w : World) (h : Rd w0 w g d a ts x) :
 Calls Tryz.prog 107 #[.pointer (some ⟨g, 0, none⟩)] w fun e w' => e = .returned (.tuple #[]) ∧ Rd w0 w' g d a ts true := by
 have hc3 := h.c3
 have hf3 := h.f 3
 have H := Lib.hid h
 clear h
 go_enter Tryz.func107, Tryz.ntmps107
 go_wp2
 first | go_end0 | ((try simp only [Exit.inBlock, Exit.then]); refine bodyPost_ret (results_none rfl _ _ _) rfl ?_)
 exact ⟨rfl, by first | exact (H.out.drew).set3 true | exact (H.out).set3 true | exact ((H.out).set3 true).drew⟩
set_option maxHeartbeats 8000000 in
set_option maxRecDepth 100000 in
theorem tell_c (w : World) (h : Rd w0 w g d a ts x) (kind frm til : Int) (nm vl : ByteArray) (hl : ts.length ≤ 1000000) :
 Calls Tryz.prog 108 #[.pointer (some ⟨g, 0, none⟩), .int .i64 kind, .int .i64 frm, .int .i64 til, .string nm, .string vl] w fun e w' => e = .returned (.tuple #[]) ∧ Rd w0 w' g d til (ts ++ [⟨kind, frm, til, nm, vl⟩]) x := by
 have hlt := h.lt
 have hf2 := h.f 2
 obtain ⟨v, h1, h2, h3, h4⟩ := h
 have hc2 : w.cell? ⟨g, 2, none⟩ = some v := (blk_cell h1 2).trans rfl
 have hbs := h4.size
 have H1 := Lib.hid h1
 have H3 := Lib.hid h3
 have H4 := Lib.hid h4
 have HL := Lib.hid hl
 clear h1 h3 h4 hl
 go_enter Tryz.func108, Tryz.ntmps108
 go_wp2_with (at_builtin; refine Kd.R_append k51 (w0 := w0) w0.heap.size rfl (.tmp 16) (.tmp 23) 43 51 (.agg #[(.int .i64 0), (.int .i64 0), (.int .i64 0), (.string ⟨#[]⟩), (.string ⟨#[]⟩)]) 56 rfl Tryz.underlying43 infoTok rfl (by decide) (by omega) v ts (⟨kind, frm, til, nm, vl⟩ : Tok) [.int .i64 kind, .int .i64 frm, .int .i64 til, .string nm, .string vl] (fun k => k ≠ g) (fun _ => False) rfl rfl ?aP (fun _ hk => hk.elim) ?aF ?aO ?aB ?aS ?aL ?_)
 case aP => exact k51_mkM _ _ _ (⟨kind, frm, til, nm, vl⟩ : Tok)
 case aF => exact (fun k hk => by have : w.heap.size ≤ k := hk; omega)
 case aO => exact (by (with_reducible repeat (first | apply Kd.R_alloc | apply Kd.R_drewN | apply Kd.R_drew)); exact H3.out)
 case aB => exact (by repeat (first | (with_reducible first | exact H4.out | apply below_alloc | apply pw_below_drewN | apply below_drew1) | exact H4.out))
 case aS => exact hbs
 case aL => have := HL.out; omega
 intro v1 w1 ho hb hg hat
 obtain ⟨A1, c1, rfl, -, -⟩ := Kd.R_reads ho
 rw [show (ts ++ [(⟨kind, frm, til, nm, vl⟩ : Tok)]).length = ts.length + 1 from by simp] at ho ⊢
 obtain ⟨v1, hv1⟩ : ∃ v1, Value.slice A1 (ts.length + 1) c1 = v1 := ⟨_, rfl⟩
 have hne : some g ≠ v.ownBlock := fun e => H3.out.1 g e.symm rfl
 have h5 : w1.heap[g]? = some (.cells #[.string d, .int .i64 a, v, .bool x] 91 (0, 0)) := blk_grown (by first | exact H1.out | exact blk_drew H1.out | exact blk_drewN H1.out _) hg hne
 have hc2' : w1.cell? ⟨g, 2, none⟩ = some v := (blk_cell h5 2).trans rfl
 have hf2' := blk_frozen h5 2
 have hd : (w1.setCell ⟨g, 2, none⟩ v1).heap[g]? = some (.cells #[.string d, .int .i64 a, v1, .bool x] 91 (0, 0)) := by simpa [hv1] using blk_set h5 2 v1
 have HR : Rd w0 (w1.setCell ⟨g, 2, none⟩ v1) g d a (ts ++ [⟨kind, frm, til, nm, vl⟩]) x := ⟨v1, hd, h2, Kd.R_far (p := ⟨g, 2, none⟩) (hv1 ▸ ho) (fun _ hk => hk) _, hb.setCell h2 _⟩
 have HR' := Lib.hid HR
 have hc1 : w1.cell? ⟨g, 1, none⟩ = some (.int .i64 a) := (blk_cell h5 1).trans rfl
 have hf1 := blk_frozen h5 1
 clear HR hd h5 ho hb hg hat H1 H3 H4
 subst hv1
 go_wp2
 first | go_end0 | ((try simp only [Exit.inBlock, Exit.then]); refine bodyPost_ret (results_none rfl _ _ _) rfl ?_)
 exact ⟨rfl, by first | exact HR'.out.set1 til | exact (HR'.out.drew).set1 til | exact (HR'.out.drewN _).set1 til⟩
def standsB (d : ByteArray) (i : Int) (s : ByteArray) : Bool := Lib.hasPrefix (d.data.toList.drop i.toNat) s.data.toList
set_option maxHeartbeats 8000000 in
set_option maxRecDepth 100000 in
theorem stands_c (w : World) (h : Rd w0 w g d a ts x) (i : Int) (s : ByteArray) (h0 : 0 ≤ i) :
 Calls Tryz.prog 78 #[.pointer (some ⟨g, 0, none⟩), .int .i64 i, .string s] w fun e w' => e = .returned (.bool (standsB d i s)) ∧ ∃ n, w' = w.drewN n := by
 have hc0 := h.c0
 obtain ⟨j, hj⟩ : ∃ j : Int, (if (d.size : Int) < i then (d.size : Int) else i) = j := ⟨_, rfl⟩
 have hj0 : 0 ≤ j := by rw [← hj]; split <;> omega
 have hj1 : j ≤ (d.size : Int) := by rw [← hj]; split <;> omega
 have hdr : Lib.hasPrefix (d.extract j.toNat d.size).data.toList s.data.toList = standsB d i s := by
  unfold standsB
  congr 1
  rw [Lib.extract_data]
  have hl : d.data.toList.length = d.size := (Lib.size_eq d).symm
  rw [List.take_of_length_le (by rw [List.length_drop]; omega)]
  by_cases c : (d.size : Int) < i
  ·rw [if_pos c] at hj
   rw [List.drop_of_length_le (by omega), List.drop_of_length_le (by omega)]
  ·rw [if_neg c] at hj
   rw [hj]
 have e0 : decide (0 ≤ j) = true := decide_eq_true hj0
 have e1 : decide (j ≤ (d.size : Int)) = true := decide_eq_true hj1
 have e2 := eq_true hj0
 have e3 := eq_true hj1
 have hP : ∀ W : World, Calls Tryz.prog 104 #[.string (d.extract j.toNat d.size), .string s] W fun e w' => e = .returned (.bool (standsB d i s)) ∧ Drawn0 W w' := fun W =>
  (Tryz.strings_HasPrefix (d.extract j.toNat d.size) s W).mono fun e w' he => ⟨by rw [he.1, hdr], 0, by rw [he.2]; rfl⟩
 have HD := Lib.hid hdr
 clear hdr
 go_enter Tryz.func78, Tryz.ntmps78
 go_wp2_with (first | (go_at_call 104; (with_reducible refine (hP _).mono ?_); rintro e w' ⟨rfl, ⟨nd, rfl⟩⟩; (try first | exact ⟨rfl, _, World.drewN_drewN _ _ _⟩ | exact ⟨rfl, _, Eq.trans (World.drewN_drewN _ _ _) (congrArg (World.drewN _) (Nat.add_assoc _ _ _))⟩)))
 repeat (go_quiet (first | (go_at_call 104; (with_reducible refine (hP _).mono ?_); rintro e w' ⟨rfl, ⟨nd, rfl⟩⟩; (try first | exact ⟨rfl, _, World.drewN_drewN _ _ _⟩ | exact ⟨rfl, _, Eq.trans (World.drewN_drewN _ _ _) (congrArg (World.drewN _) (Nat.add_assoc _ _ _))⟩))); try go_wp2_with (first | (go_at_call 104; (with_reducible refine (hP _).mono ?_); rintro e w' ⟨rfl, ⟨nd, rfl⟩⟩; (try first | exact ⟨rfl, _, World.drewN_drewN _ _ _⟩ | exact ⟨rfl, _, Eq.trans (World.drewN_drewN _ _ _) (congrArg (World.drewN _) (Nat.add_assoc _ _ _))⟩))))
 go_ret
 exact ⟨rfl, _, rfl⟩
end Go.Proofs.YtlhhhlimjajnlaaGreat.X
end
section
set_option linter.unusedVariables false
set_option linter.unusedSimpArgs false
namespace Go.Proofs.YtlhhhlimjajnlaaGreat.X
open Go Go.RowKit Go.Proofs.YtlhhhlimjajnlaaGreat Go.Proofs.YtlhhhlimjajnlaaGreat.Q Go.Proofs.YtlhhhlimjajnlaaGreatW.PrintWords
abbrev Nod := S41
structure PS where
 n : List Nod
 s : List ByteArray
 o : List Int
 x : ByteArray
 dp : Bool
 wr : Bool
def topP (o : List Int) : Int := o.getLast?.getD (-1)
def putP (p : PS) (k nm : Int) (v name : ByteArray) : PS := { p with n := p.n ++ [⟨k, nm, topP p.o, v⟩], s := p.s ++ [name] }
def flushP (p : PS) : PS :=
 if p.x.data.toList = [] then { p with x := ⟨#[]⟩ }
 else if topP p.o < 0 then { p with x := ⟨#[]⟩, wr := p.wr || decide (skipP p.x.data.toList 0 < (p.x.size : Int)) }
 else putP { p with x := ⟨#[]⟩ } 3 (-1) p.x ⟨#[]⟩
def beginP (p : PS) (name : ByteArray) : PS :=
 let q := flushP p
 let r := putP { q with wr := q.wr || (decide (topP q.o < 0) && decide (0 < q.n.length)), dp := q.dp || decide ((64 : Int) < q.o.length) } 1 0 ⟨#[]⟩ name
 { r with o := r.o ++ [(q.n.length : Int)] }
def attrS (p : PS) (name v : ByteArray) : PS :=
 putP { p with wr := p.wr || ((p.s.drop (topP p.o + 1).toNat).any fun a => a.data.toList == name.data.toList) } 2 0 v name
def endP (p : PS) (name : ByteArray) : PS :=
 let q := flushP p
 if topP q.o < 0 ∨ ¬ (q.s.getD (topP q.o).toNat ⟨#[]⟩).data.toList = name.data.toList then { q with wr := true } else { q with o := q.o.dropLast }
def stepT (p : PS) (t : Tok) : PS :=
 if t.f0 = 7 then p else if t.f0 = 6 then { p with x := p.x ++ t.f4 } else if t.f0 = 1 then beginP p t.f3 else if t.f0 = 2 then attrS p t.f3 t.f4
 else if t.f0 = 4 then endP p (p.s.getD (topP p.o).toNat ⟨#[]⟩) else if t.f0 = 5 then endP p t.f3 else p
def psZero : PS := ⟨[], [], [], ⟨#[]⟩, false, false⟩
def namesOf (p : PS) : List (List UInt8) := ((p.n.zip p.s).filterMap fun c => if c.1.f0 = 3 then none else some c.2.data.toList)
def onceP : List (List UInt8) → List (List UInt8)
 | [] => []
 | a :: t => if t.contains a then onceP t else a :: onceP t
def sortedP (l : List (List UInt8)) : List (List UInt8) := (onceP l).mergeSort fun x y => decide (x ≤ y)
def bytesL (l : List UInt8) : ByteArray := ⟨l.toArray⟩
def numbered (names : List (List UInt8)) (n : Nod) (s : ByteArray) : Nod := if n.f0 = 3 then n else { n with f1 := (names.idxOf s.data.toList : Int) }
def treeP (p : PS) : (List ByteArray × List Nod) × Int :=
 if p.wr = true ∨ 0 < p.o.length ∨ p.n.length = 0 then (([], []), 15)
 else if p.dp = true ∨ 5000 < p.n.length ∨ 1000 < (sortedP (namesOf p)).length then (([], []), 18)
 else (((sortedP (namesOf p)).map bytesL, (p.n.zip p.s).map fun c => numbered (sortedP (namesOf p)) c.1 c.2), 0)
structure CS where
 op : List Int
 m : List Bool
 t : List Bool
 a : Nat → Option (List Int)
def namedP (nn : Nat) (x : Nod) : Bool :=
 if x.f0 = 3 then decide (x.f1 = -1) && !(x.f3.data.toList == [])
 else (decide (0 ≤ x.f1) && decide (x.f1 < (nn : Int))) && (decide (x.f0 = 2) || (decide (x.f0 = 1) && (x.f3.data.toList == [])))
def placeP (op : List Int) (p : Int) : Option (List Int) := if p ∈ op then some (op.take (op.idxOf p + 1)) else none
def rightC (s : CS) (i : Nat) (x : Nod) : Option CS :=
 if i = 0 then (if x.f0 = 1 ∧ x.f2 = -1 then some s else none)
 else match placeP s.op x.f2 with
  | none => none
  | some o =>
   if x.f0 = 1 ∧ 64 < o.length then none
   else if x.f0 = 2 then
    (if s.m.getD x.f2.toNat false = true ∨ x.f1 ∈ (s.a x.f2.toNat).getD [] then none
     else some { s with op := o, a := fun p => if p = x.f2.toNat then some ((s.a x.f2.toNat).getD [] ++ [x.f1]) else s.a p })
   else if x.f0 = 3 then
    (if s.t.getD x.f2.toNat false = true then none else some { s with op := o, m := s.m.set x.f2.toNat true, t := s.t.set x.f2.toNat true })
   else some { s with op := o, m := s.m.set x.f2.toNat true, t := s.t.set x.f2.toNat false }
def openC (s : CS) (i : Nat) (x : Nod) : CS := if x.f0 = 1 then { s with op := s.op ++ [(i : Int)], a := fun p => if p = i then some [] else s.a p } else s
def stepC (nn : Nat) (s : CS) (i : Nat) (x : Nod) : Option CS :=
 if namedP nn x = true ∧ validL x.f3.data.toList = true then (rightC s i x).map fun s' => openC s' i x else none
def nodesC (nn : Nat) : List Nod → Nat → CS → Option CS
 | [], _, s => some s
 | x :: r, i, s => match stepC nn s i x with | none => none | some s' => nodesC nn r (i + 1) s'
def zeroC (n : Nat) : CS := ⟨[], List.replicate n false, List.replicate n false, fun _ => none⟩
def namesC (N : List ByteArray) (D : List Nod) : Bool :=
 (List.range N.length).all fun k => (D.any fun x => decide (x.f1 = (k : Int))) && ((!(N.getD k ⟨#[]⟩).data.toList.isEmpty && (nameEndP (N.getD k ⟨#[]⟩).data.toList 0 == ((N.getD k ⟨#[]⟩).size : Int))) && (decide (k = 0) || decide ((N.getD (k - 1) ⟨#[]⟩).data.toList < (N.getD k ⟨#[]⟩).data.toList)))
def checkV (N : List ByteArray) (D : List Nod) : Int :=
 if D.length = 0 ∨ 5000 < D.length ∨ 1000 < N.length then 1
 else if (nodesC N.length D 0 (zeroC D.length)).isNone = true then 1
 else if namesC N D = true then 0 else 1
structure WS where
 out : List UInt8
 op : List Int
 bg : Bool
def readyW (s : WS) : WS := { s with out := if s.bg = true then s.out ++ [62] else s.out, bg := false }
def nameW (N : List ByteArray) (D : List Nod) (p : Int) : List UInt8 := (N.getD (D.getD p.toNat ⟨0, 0, 0, ⟨#[]⟩⟩).f1.toNat ⟨#[]⟩).data.toList
def popW (N : List ByteArray) (D : List Nod) (s : WS) : WS := { readyW s with out := (readyW s).out ++ ([60, 47] ++ nameW N D (s.op.getLastD 0) ++ [62]), op := s.op.dropLast }
def closeW (N : List ByteArray) (D : List Nod) (p : Int) : Nat → WS → WS
 | 0, s => s
 | k + 1, s => if s.op = [] ∨ s.op.getLastD 0 = p then s else closeW N D p k (popW N D s)
def nodeW (N : List ByteArray) (D : List Nod) (i : Nat) (x : Nod) (s : WS) : WS :=
 let c := closeW N D x.f2 s.op.length s
 if x.f0 = 2 then { c with out := c.out ++ ([32] ++ (N.getD x.f1.toNat ⟨#[]⟩).data.toList ++ [61, 34] ++ escL x.f3.data.toList ++ [34]) }
 else
  let r := readyW c
  if x.f0 = 3 then { r with out := r.out ++ escL x.f3.data.toList }
  else ⟨r.out ++ ([60] ++ (N.getD x.f1.toNat ⟨#[]⟩).data.toList), r.op ++ [(i : Int)], true⟩
def nodesW (N : List ByteArray) (D : List Nod) : List Nod → Nat → WS → WS
 | [], _, s => s
 | x :: r, i, s => nodesW N D r (i + 1) (nodeW N D i x s)
def endW (N : List ByteArray) (D : List Nod) : WS := let s := nodesW N D D 0 ⟨[], [], false⟩; closeW N D (-1) s.op.length s
def writeV (N : List ByteArray) (D : List Nod) : ByteArray × Int :=
 if checkV N D = 0 then (if 65536 < (endW N D).out.length then (⟨#[]⟩, 11) else (⟨(endW N D).out.toArray⟩, 0)) else (⟨#[]⟩, checkV N D)
end Go.Proofs.YtlhhhlimjajnlaaGreat.X
end
section
set_option linter.unusedVariables false
set_option linter.unusedSimpArgs false
namespace Go.Proofs.YtlhhhlimjajnlaaGreat.X
open Go.RowKit Go.Proofs.YtlhhhlimjajnlaaGreat Go.Proofs.YtlhhhlimjajnlaaGreat.Q Go.Proofs.YtlhhhlimjajnlaaGreatW.PrintWords Go.Proofs.YtlhhhlimjajnlaaGreatW.PrintLast Go.Proofs.YtlhhhlimjajnlaaGreatW.PrintMore
attribute [local go_sem] max2_int min2_int max_two min_two   
theorem infoInt : (Tryz.prog.info? 3).map (fun i => (i.zero, i.size, i.bytes)) = some (some (.int .i64 0), 1, 8) := by kernel_rfl
theorem infoStr : (Tryz.prog.info? 9).map (fun i => (i.zero, i.size, i.bytes)) = some (some (.string ⟨#[]⟩), 1, 16) := by kernel_rfl
theorem infoNod : (Tryz.prog.info? 41).map (fun i => (i.zero, i.size, i.bytes)) = some (some (.agg #[.int .i64 0, .int .i64 0, .int .i64 0, .string ⟨#[]⟩]), 4, 40) := by kernel_rfl
def Bd (w0 W : World) (g : Nat) (v1 v2 v3 : Value) (p : PS) : Prop :=
 W.heap[g]? = some (.cells #[v1, v2, v3, .string p.x, .bool p.dp, .bool p.wr] 49 (0, 0)) ∧ w0.heap.size ≤ g ∧
 Kd.R k41 41 W w0.heap.size (fun _ => True) v1 p.n ∧ Kd.R Kd.string 9 W w0.heap.size (fun _ => True) v2 p.s ∧ Kd.R (Kd.int .i64) 3 W w0.heap.size (fun _ => True) v3 p.o ∧
 Below w0.heap.size w0 W
section
variable {w0 W W1 : World} {g : Nat} {v1 v2 v3 : Value} {p : PS}
theorem Bd.below (h : Bd w0 W g v1 v2 v3 p) (hb : Below W.heap.size W W1) : Bd w0 W1 g v1 v2 v3 p := by
 obtain ⟨h1, h2, h3, h4, h5, h6⟩ := h
 exact ⟨blk_below h1 hb, h2, Kd.R_below h3 hb, Kd.R_below h4 hb, Kd.R_below h5 hb, below_step h6 hb⟩
theorem Bd.drewN (h : Bd w0 W g v1 v2 v3 p) (m : Nat) : Bd w0 (W.drewN m) g v1 v2 v3 p := h.below (pw_below_drewN (Below.refl _ _) m)
theorem Bd.drew (h : Bd w0 W g v1 v2 v3 p) : Bd w0 W.drew g v1 v2 v3 p := h.below (below_drew (Below.refl _ _))
theorem Bd.blk (h : Bd w0 W g v1 v2 v3 p) : W.heap[g]? = some (.cells #[v1, v2, v3, .string p.x, .bool p.dp, .bool p.wr] 49 (0, 0)) := h.1
theorem Bd.ge (h : Bd w0 W g v1 v2 v3 p) : w0.heap.size ≤ g := h.2.1
theorem Bd.bel (h : Bd w0 W g v1 v2 v3 p) : Below w0.heap.size w0 W := h.2.2.2.2.2
theorem Bd.c0 (h : Bd w0 W g v1 v2 v3 p) : W.cell? ⟨g, 0, none⟩ = some v1 := (blk_cell h.1 0).trans rfl
theorem Bd.c1 (h : Bd w0 W g v1 v2 v3 p) : W.cell? ⟨g, 1, none⟩ = some v2 := (blk_cell h.1 1).trans rfl
theorem Bd.c2 (h : Bd w0 W g v1 v2 v3 p) : W.cell? ⟨g, 2, none⟩ = some v3 := (blk_cell h.1 2).trans rfl
theorem Bd.c3 (h : Bd w0 W g v1 v2 v3 p) : W.cell? ⟨g, 3, none⟩ = some (.string p.x) := (blk_cell h.1 3).trans rfl
theorem Bd.c4 (h : Bd w0 W g v1 v2 v3 p) : W.cell? ⟨g, 4, none⟩ = some (.bool p.dp) := (blk_cell h.1 4).trans rfl
theorem Bd.c5 (h : Bd w0 W g v1 v2 v3 p) : W.cell? ⟨g, 5, none⟩ = some (.bool p.wr) := (blk_cell h.1 5).trans rfl
theorem Bd.f (h : Bd w0 W g v1 v2 v3 p) (i : Nat) : W.frozen? ⟨g, i, none⟩ = false := blk_frozen h.1 i
theorem Bd.r1 (h : Bd w0 W g v1 v2 v3 p) : Kd.R k41 41 W w0.heap.size (fun _ => True) v1 p.n := h.2.2.1
theorem Bd.r2 (h : Bd w0 W g v1 v2 v3 p) : Kd.R Kd.string 9 W w0.heap.size (fun _ => True) v2 p.s := h.2.2.2.1
theorem Bd.r3 (h : Bd w0 W g v1 v2 v3 p) : Kd.R (Kd.int .i64) 3 W w0.heap.size (fun _ => True) v3 p.o := h.2.2.2.2.1
theorem Bd.n1 (h : Bd w0 W g v1 v2 v3 p) : some g ≠ v1.ownBlock := Kd.R_ne h.r1 h.1 (by decide)
theorem Bd.n2 (h : Bd w0 W g v1 v2 v3 p) : some g ≠ v2.ownBlock := Kd.R_ne h.r2 h.1 (by decide)
theorem Bd.n3 (h : Bd w0 W g v1 v2 v3 p) : some g ≠ v3.ownBlock := Kd.R_ne h.r3 h.1 (by decide)
theorem R_away_set {α : Type} {d : Kd α} {e base : Nat} {v : Value} {xs : List α} (h : d.R e W base (fun _ => True) v xs) (hE : d.E = []) (hne : some g ≠ v.ownBlock) (j : Nat) (u : Value) : d.R e (W.setCell ⟨g, j, none⟩ u) base (fun _ => True) v xs :=
 Kd.R_mono (Kd.R_far (p := ⟨g, j, none⟩) (Kd.R_far1 h hE hne) (fun k hk => hk.2) u) (fun _ _ => trivial)
theorem Bd.set (h : Bd w0 W g v1 v2 v3 p) (q : PS) (hn : q.n = p.n) (hs : q.s = p.s) (ho : q.o = p.o) (j : Nat) (u : Value)
 (hc : (#[v1, v2, v3, .string p.x, .bool p.dp, .bool p.wr] : Array Value).setIfInBounds j u = #[v1, v2, v3, .string q.x, .bool q.dp, .bool q.wr]) : Bd w0 (W.setCell ⟨g, j, none⟩ u) g v1 v2 v3 q := by
 refine ⟨by rw [← hc]; exact blk_set h.1 j u, h.ge, ?_, ?_, ?_, h.bel.setCell h.ge _⟩
 ·rw [hn]; exact R_away_set h.r1 rfl h.n1 j u
 ·rw [hs]; exact R_away_set h.r2 rfl h.n2 j u
 ·rw [ho]; exact R_away_set h.r3 rfl h.n3 j u
theorem rows_apart {α β : Type} {d : Kd α} {d' : Kd β} {e e' b b' : Nat} {ok ok' : Nat → Prop} {v u : Value} {xs : List α} {ys : List β} (h : d.R e W b ok v xs) (h' : d'.R e' W b' ok' u ys) (hne : e' ≠ e) : ∀ k, v.ownBlock = some k → some k ≠ u.ownBlock := by
 intro k hk
 obtain ⟨cells, hc⟩ := Kd.R_typed h k hk
 exact Kd.R_ne h' hc hne
end
set_option maxHeartbeats 4000000 in
set_option maxRecDepth 100000 in
theorem top_c {w0 w : World} {g : Nat} {v1 v2 v3 : Value} {p : PS} (h : Bd w0 w g v1 v2 v3 p) (hl : p.o.length ≤ 1000000) :
 Calls Tryz.prog 29 #[.pointer (some ⟨g, 0, none⟩)] w fun e w' => e = .returned (.int .i64 (topP p.o)) ∧ ∃ n, w' = w.drewN n := by
 have hc2 := h.c2
 obtain ⟨A, c, rfl, hle, hC⟩ := Kd.R_reads h.r3
 rcases List.eq_nil_or_concat p.o with ho | ⟨pre, x, ho⟩
 ·rw [ho] at hc2 ⊢
  simp only [List.length_nil] at hc2
  go_enter Tryz.func29, Tryz.ntmps29
  go_wp2
  first | go_ret | go_ret2 | go_ret3
  exact ⟨rfl, 0, rfl⟩
 ·have hlen : p.o.length = pre.length + 1 := by rw [ho]; simp
  have hi0 : (0 : Int) ≤ (pre.length : Int) := by omega
  obtain ⟨ad, rfl, hx⟩ := Kd.at_int hC (pre.length : Int) (by omega) (by omega)
  have hrd : rd p.o (pre.length : Int) = x := by rw [ho]; unfold rd; simp
  have htop : topP p.o = x := by rw [ho]; unfold topP; simp
  rw [hrd] at hx
  rw [htop]
  rw [hlen] at hc2
  have e1 : IntKind.i64.wrap (((pre.length + 1 : Nat) : Int) - 1) = (pre.length : Int) := zz12
  have e2 : wrap64 (((pre.length + 1 : Nat) : Int) - 1) = (pre.length : Int) := by unfold wrap64; omega
  have e3 : (((pre.length + 1 : Nat) : Int) == 0) = false := by rw [beq_eq_false_iff_ne]; omega
  have p0 := eq_true hi0
  have p1 : ((pre.length : Int) < ((pre.length + 1 : Nat) : Int)) = True := eq_true (by omega)
  rw [Int.toNat_natCast] at hx
  obtain ⟨L, hL⟩ : ∃ L, pre.length + 1 = L := ⟨_, rfl⟩
  obtain ⟨M, hM⟩ : ∃ M, pre.length = M := ⟨_, rfl⟩
  rw [hL] at hc2 e1 e2 e3 p1
  rw [hM] at hx e1 e2 p0 p1
  clear hC hL hM hrd htop hlen
  go_enter Tryz.func29, Tryz.ntmps29
  go_wp2
  all_goals (try go_region)
  all_goals (try go_wp2)
  all_goals first | go_ret | go_ret2 | go_ret3
  all_goals exact ⟨rfl, _, rfl⟩
section
variable {w0 W w1 : World} {g : Nat} {v1 v2 v3 u : Value} {p : PS}
theorem Bd.app1 (h : Bd w0 W g v1 v2 v3 p) (hg : W.grownBy w1 v1.ownBlock) {l : List Nod} (ho : Kd.R k41 41 w1 w0.heap.size (fun _ => True) u l) (hb : Below w0.heap.size w0 w1) :
 Bd w0 (w1.setCell ⟨g, 0, none⟩ u) g u v2 v3 { p with n := l } := by
 have hk := blk_grown h.1 hg h.n1
 have r2 := Kd.R_grown2 h.r2 rfl hg (rows_apart h.r1 h.r2 (by decide))
 have r3 := Kd.R_grown2 h.r3 rfl hg (rows_apart h.r1 h.r3 (by decide))
 exact ⟨blk_set hk 0 u, h.ge, R_away_set ho rfl (Kd.R_ne ho hk (by decide)) 0 u, R_away_set r2 rfl h.n2 0 u, R_away_set r3 rfl h.n3 0 u, hb.setCell h.ge _⟩
theorem Bd.app2 (h : Bd w0 W g v1 v2 v3 p) (hg : W.grownBy w1 v2.ownBlock) {l : List ByteArray} (ho : Kd.R Kd.string 9 w1 w0.heap.size (fun _ => True) u l) (hb : Below w0.heap.size w0 w1) :
 Bd w0 (w1.setCell ⟨g, 1, none⟩ u) g v1 u v3 { p with s := l } := by
 have hk := blk_grown h.1 hg h.n2
 have r1 := Kd.R_grown2 h.r1 rfl hg (rows_apart h.r2 h.r1 (by decide))
 have r3 := Kd.R_grown2 h.r3 rfl hg (rows_apart h.r2 h.r3 (by decide))
 exact ⟨blk_set hk 1 u, h.ge, R_away_set r1 rfl h.n1 1 u, R_away_set ho rfl (Kd.R_ne ho hk (by decide)) 1 u, R_away_set r3 rfl h.n3 1 u, hb.setCell h.ge _⟩
theorem Bd.app3 (h : Bd w0 W g v1 v2 v3 p) (hg : W.grownBy w1 v3.ownBlock) {l : List Int} (ho : Kd.R (Kd.int .i64) 3 w1 w0.heap.size (fun _ => True) u l) (hb : Below w0.heap.size w0 w1) :
 Bd w0 (w1.setCell ⟨g, 2, none⟩ u) g v1 v2 u { p with o := l } := by
 have hk := blk_grown h.1 hg h.n3
 have r1 := Kd.R_grown2 h.r1 rfl hg (rows_apart h.r3 h.r1 (by decide))
 have r2 := Kd.R_grown2 h.r2 rfl hg (rows_apart h.r3 h.r2 (by decide))
 exact ⟨blk_set hk 2 u, h.ge, R_away_set r1 rfl h.n1 2 u, R_away_set r2 rfl h.n2 2 u, R_away_set ho rfl (Kd.R_ne ho hk (by decide)) 2 u, hb.setCell h.ge _⟩
end
section
variable {w0 W W2 : World} {g : Nat} {v1 v2 v3 : Value} {p : PS} {ops : Array Oper} {o : Oper} {a : Act} {Q : Exit → Act → World → Prop} {Kc : Act → World → Prop}
theorem Bd.push1 (h : Bd w0 W g v1 v2 v3 p) (hl : p.n.length ≤ 1000000) (x : Nod) (s y : Operand) (hw : Region.wanted o (yielded ops a.tmps) = true)
 (ho : o.op = .call { callee := .builtin .append, args := #[s, y], argTypes := #[25, 25] }) (hs : a.eval s = v1) (hx : a.eval y = .slice (some ⟨W.heap.size, 0, none⟩) 1 1)
 (hW : W2 = W.alloc (.cells #[.int .i64 x.f0, .int .i64 x.f1, .int .i64 x.f2, .string x.f3] 41))
 (K : ∀ A1 c1 w1, Bd w0 (w1.setCell ⟨g, 0, none⟩ (.slice A1 (p.n.length + 1) c1)) g (.slice A1 (p.n.length + 1) c1) v2 v3 { p with n := p.n ++ [x] } → w1.cell? ⟨g, 0, none⟩ = some v1 → w1.frozen? ⟨g, 0, none⟩ = false → (∀ k (ob : Obj), W.heap[k]? = some ob → some k ≠ v1.ownBlock → w1.heap[k]? = some ob) → Kc (a.put o.dst (.slice A1 (p.n.length + 1) c1)) w1) :
 if Region.wanted o (yielded ops a.tmps) = true then Oper.wp Tryz.prog o a W2 Kc Q else Kc (a.put o.dst undef) W2 := by
 subst hW
 refine Kd.R_append_step k41 (w0 := w0) w0.heap.size hw s y 25 41 (.agg #[.int .i64 0, .int .i64 0, .int .i64 0, .string ⟨#[]⟩]) 40 ho Tryz.underlying25 infoNod rfl (by decide) (by omega) v1 p.n x [.int .i64 x.f0, .int .i64 x.f1, .int .i64 x.f2, .string x.f3] (fun _ => True) (fun _ => False) hs hx (k41_mkM _ _ _ x) (fun _ hk => hk.elim) (fun _ _ => trivial) h.r1 h.bel h.bel.size (by omega) ?_
 intro u w1 ho1 hb hg hat
 have hB := h.app1 hg ho1 hb
 have hk1 := blk_grown h.blk hg h.n1
 obtain ⟨A1, c1, rfl, -, -⟩ := Kd.R_reads ho1
 rw [show (p.n ++ [x]).length = p.n.length + 1 from by simp] at hB ⊢
 exact K A1 c1 w1 hB ((blk_cell hk1 0).trans rfl) (blk_frozen hk1 0) (fun k ob hk hne => blk_grown hk hg hne)
theorem Bd.push3 (h : Bd w0 W g v1 v2 v3 p) (hl : p.o.length ≤ 1000000) (x : Int) (s y : Operand) (hw : Region.wanted o (yielded ops a.tmps) = true)
 (ho : o.op = .call { callee := .builtin .append, args := #[s, y], argTypes := #[47, 47] }) (hs : a.eval s = v3) (hx : a.eval y = .slice (some ⟨W.heap.size, 0, none⟩) 1 1)
 (hW : W2 = W.alloc (.cells #[.int .i64 x] 3))
 (K : ∀ A1 c1 w1, Bd w0 (w1.setCell ⟨g, 2, none⟩ (.slice A1 (p.o.length + 1) c1)) g v1 v2 (.slice A1 (p.o.length + 1) c1) { p with o := p.o ++ [x] } → w1.cell? ⟨g, 2, none⟩ = some v3 → w1.frozen? ⟨g, 2, none⟩ = false → (∀ k (ob : Obj), W.heap[k]? = some ob → some k ≠ v3.ownBlock → w1.heap[k]? = some ob) → Kc (a.put o.dst (.slice A1 (p.o.length + 1) c1)) w1) :
 if Region.wanted o (yielded ops a.tmps) = true then Oper.wp Tryz.prog o a W2 Kc Q else Kc (a.put o.dst undef) W2 := by
 subst hW
 refine Kd.R_append_step (Kd.int .i64) (w0 := w0) w0.heap.size hw s y 47 3 (.int .i64 0) 8 ho Tryz.underlying47 infoInt rfl (by decide) (by omega) v3 p.o x [.int .i64 x] (fun _ => True) (fun _ => False) hs hx rfl (fun _ hk => hk.elim) (fun _ _ => trivial) h.r3 h.bel h.bel.size (by omega) ?_
 intro u w1 ho1 hb hg hat
 have hB := h.app3 hg ho1 hb
 have hk1 := blk_grown h.blk hg h.n3
 obtain ⟨A1, c1, rfl, -, -⟩ := Kd.R_reads ho1
 rw [show (p.o ++ [x]).length = p.o.length + 1 from by simp] at hB ⊢
 exact K A1 c1 w1 hB ((blk_cell hk1 2).trans rfl) (blk_frozen hk1 2) (fun k ob hk hne => blk_grown hk hg hne)
end
section
variable {w0 W W2 : World} {g : Nat} {v1 v2 v3 : Value} {p : PS} {ops : Array Oper} {o : Oper} {a : Act} {Q : Exit → Act → World → Prop} {rest : List Oper}
theorem Bd.list2 (h : Bd w0 W g v1 v2 v3 p) (hl : p.s.length ≤ 1000000) (x : ByteArray) (s y : Operand) (hgd : o.guard = none)
 (ho : o.op = .call { callee := .builtin .append, args := #[s, y], argTypes := #[24, 24] }) (hs : a.eval s = v2) (hx : a.eval y = .slice (some ⟨W.heap.size, 0, none⟩) 1 1)
 (hW : W2 = W.alloc (.cells #[.string x] 9))
 (K : ∀ A1 c1 w1, Bd w0 (w1.setCell ⟨g, 1, none⟩ (.slice A1 (p.s.length + 1) c1)) g v1 (.slice A1 (p.s.length + 1) c1) v3 { p with s := p.s ++ [x] } → w1.cell? ⟨g, 1, none⟩ = some v2 → w1.frozen? ⟨g, 1, none⟩ = false → (∀ k (ob : Obj), W.heap[k]? = some ob → some k ≠ v2.ownBlock → w1.heap[k]? = some ob) → wpList Tryz.prog ops Q rest (a.put o.dst (.slice A1 (p.s.length + 1) c1)) w1) :
 wpList Tryz.prog ops Q (o :: rest) a W2 := by
 subst hW
 refine Kd.R_append Kd.string (w0 := w0) w0.heap.size hgd s y 24 9 (.string ⟨#[]⟩) 16 ho Tryz.underlying24 infoStr rfl (by decide) (by omega) v2 p.s x [.string x] (fun _ => True) (fun _ => False) hs hx rfl (fun _ hk => hk.elim) (fun _ _ => trivial) h.r2 h.bel h.bel.size (by omega) ?_
 intro u w1 ho1 hb hg hat
 have hB := h.app2 hg ho1 hb
 have hk1 := blk_grown h.blk hg h.n2
 obtain ⟨A1, c1, rfl, -, -⟩ := Kd.R_reads ho1
 rw [show (p.s ++ [x]).length = p.s.length + 1 from by simp] at hB ⊢
 exact K A1 c1 w1 hB ((blk_cell hk1 1).trans rfl) (blk_frozen hk1 1) (fun k ob hk hne => blk_grown hk hg hne)
end
set_option maxHeartbeats 8000000 in
set_option maxRecDepth 100000 in
theorem put_c {w0 w : World} {g : Nat} {v1 v2 v3 : Value} {p : PS} (h : Bd w0 w g v1 v2 v3 p) (hl : p.n.length ≤ 1000000) (hl2 : p.s.length ≤ 1000000) (hl3 : p.o.length ≤ 1000000) (k nm pa : Int) (v name : ByteArray) :
 Calls Tryz.prog 57 #[.pointer (some ⟨g, 0, none⟩), .agg #[.int .i64 k, .int .i64 nm, .int .i64 pa, .string v], .string name] w fun e w' => e = .returned (.tuple #[]) ∧ ∃ v1' v2', Bd w0 w' g v1' v2' v3 (putP p k nm v name) := by
 have H := Lib.hid h
 have HL := Lib.hid hl
 have HL2 := Lib.hid hl2
 have HL3 := Lib.hid hl3
 clear h hl hl2 hl3
 go_enter Tryz.func57, Tryz.ntmps57
 go_wp2_with (go_at_call 29; refine (top_c (w0 := w0) (g := g) (v1 := v1) (v2 := v2) (v3 := v3) (p := p) (by exact H.out.below (by repeat (with_reducible first | exact Below.refl _ _ | apply below_alloc | apply pw_below_drewN | apply below_drew1))) HL3.out).mono ?_; rintro e w' ⟨rfl, n, rfl⟩)
 have hb0 := pw_below_drewN (below_alloc (Below.refl w.heap.size w) (.cells #[.int .i64 k, .int .i64 nm, .int .i64 pa, .string v] 41)) n
 have hb1 := Below.setCell (p := ⟨w.heap.size, 2, none⟩) hb0 (Nat.le_refl _) (.int .i64 (topP p.o))
 clear hb0
 have hbx := blk_set (blk_drewN (blk_new w (.cells #[.int .i64 k, .int .i64 nm, .int .i64 pa, .string v] 41)) n) 2 (.int .i64 (topP p.o))
 have H2 := H.out.below hb1
 generalize (((w.alloc (.cells #[.int .i64 k, .int .i64 nm, .int .i64 pa, .string v] 41)).drewN n).setCell ⟨w.heap.size, 2, none⟩ (.int .i64 (topP p.o))) = W1 at *
 obtain ⟨g2, hg2⟩ : ∃ g2, w.heap.size = g2 := ⟨_, rfl⟩
 rw [hg2] at hbx ⊢
 have hbx : W1.heap[g2]? = some (.cells #[.int .i64 k, .int .i64 nm, .int .i64 (topP p.o), .string v] 41 (0, 0)) := hbx
 have hx0 : W1.cell? ⟨g2, 0, none⟩ = some (.int .i64 k) := (blk_cell hbx 0).trans rfl
 have hx1 : W1.cell? ⟨g2, 1, none⟩ = some (.int .i64 nm) := (blk_cell hbx 1).trans rfl
 have hx2 : W1.cell? ⟨g2, 2, none⟩ = some (.int .i64 (topP p.o)) := (blk_cell hbx 2).trans rfl
 have hx3 : W1.cell? ⟨g2, 3, none⟩ = some (.string v) := (blk_cell hbx 3).trans rfl
 have hc0 := H2.c0
 have hca : ∀ o : Obj, (W1.alloc o).cell? ⟨g, 0, none⟩ = some v1 := fun o => (H2.below (below_alloc (Below.refl _ _) o)).c0
 have hsz := H2.bel.size
 have H3 := Lib.hid H2
 have hbx := Lib.hid hbx
 have hn2 : some g2 ≠ v1.ownBlock := fun e => by have := Kd.R_lt H.out.r1 g2 e.symm; omega
 clear hb1 H H2
 go_region_law ((first | refine Bd.push1 (w0 := w0) (v1 := v1) (v2 := v2) (v3 := v3) (p := p) H3.out HL.out (⟨k, nm, topP p.o, v⟩ : Nod) (.tmp 13) (.tmp 15) (by rfl) (by rfl) (by rfl) (by rfl) (by rfl) ?_ | refine Bd.push1 (w0 := w0) (v1 := v1) (v2 := v2) (v3 := v3) (p := p) H3.out.drew HL.out (⟨k, nm, topP p.o, v⟩ : Nod) (.tmp 13) (.tmp 15) (by rfl) (by rfl) (by rfl) (by rfl) (by rfl) ?_); intro A1 c1 w1 hB hd0 he0 hkeep; have hB := Lib.hid hB; have hd1 := hB.out.c1)
 all_goals
  go_wp2_with (at_builtin; refine Bd.list2 (w0 := w0) (g := g) (v2 := v2) (v3 := v3) (p := { p with n := p.n ++ [(⟨k, nm, topP p.o, v⟩ : Nod)] }) hB.out HL2.out name (.tmp 23) (.tmp 25) (by rfl) (by rfl) (by rfl) (by first | rfl | exact congrArg (fun n => Value.slice (some ⟨n, 0, none⟩) 1 1) (by simp)) (by rfl) ?_; intro A2 c2 w2 hB2 hd2 he2 hkeep2; have hB2 := Lib.hid hB2)
  first | go_end0 | go_ret | ((try simp only [Exit.inBlock, Exit.then]); refine bodyPost_ret (results_none rfl _ _ _) rfl ?_)
  exact ⟨rfl, _, _, hB2.out⟩
end Go.Proofs.YtlhhhlimjajnlaaGreat.X
end
section
set_option linter.unusedVariables false
set_option linter.unusedSimpArgs false
namespace Go.Proofs.YtlhhhlimjajnlaaGreat
open Go.RowKit
theorem num_ne (c d : UInt8) (h : ¬ c = d) : ((c.toNat : Int) == (d.toNat : Int)) = false := by
 rw [beq_eq_false_iff_ne]
 exact fun e => h (UInt8.toNat_inj.1 (by omega))
theorem escB_len (c : UInt8) : (escB c).length ≤ 6 := by
 unfold escB
 repeat' (split <;> try simp)
theorem escL_len (l : List UInt8) : (escL l).length ≤ 6 * l.length := by
 induction l with
 | nil => simp [escL]
 | cons c t ih =>
  have h : escL (c :: t) = escB c ++ escL t := by simp [escL]
  have := escB_len c
  rw [h, List.length_append, List.length_cons]
  omega
theorem escL_take (l : List UInt8) (k : Nat) (h : k < l.length) : escL (l.take (k + 1)) = escL (l.take k) ++ escB l[k] := by
 unfold escL
 rw [List.take_succ_eq_append_getElem h, List.flatMap_append]
 simp
theorem newBuilder (w : World) : Lib.IsBuilder 65 5 w.heap.size w.heap.size [] (w.alloc (.cells #[.pointer none, .slice none 0 0] 65)) :=
 .inl ⟨Nat.le_refl _, .slice none 0 0, heap_alloc_new w _, ⟨by simp, .inl ⟨rfl, rfl⟩⟩, by simp [Value.ownBlock]⟩
end Go.Proofs.YtlhhhlimjajnlaaGreat
end
section
set_option linter.unusedVariables false
set_option linter.unusedSimpArgs false
namespace Go.Proofs.YtlhhhlimjajnlaaGreat
open Go.RowKit
set_option maxHeartbeats 4000000 in
set_option maxRecDepth 100000 in
theorem escape_c (s : ByteArray) (hs : s.size ≤ 4294967296) (w : World) :
 Calls Tryz.prog 41 #[.string s] w fun e w' => e = .returned (.string ⟨(escL s.data.toList).toArray⟩) ∧ Below w.heap.size w w' := by
 go_enter Tryz.func41, Tryz.ntmps41
 go_wp2
 have HI : Hid (Lib.IsBuilder 65 5 w.heap.size w.heap.size (Lib.byteCells (escL (s.data.toList.take 0))) (w.alloc (.cells #[.pointer none, .slice none 0 0] 65))) := Lib.hid (newBuilder w)
 go_loopw [7] (fun t wr => ∃ k : Nat, k ≤ s.size ∧ t = .int .i64 k ∧ Hid (Lib.IsBuilder 65 5 w.heap.size w.heap.size (Lib.byteCells (escL (s.data.toList.take k))) wr) ∧ Hid (Below w.heap.size w wr)) (fun t wr => s.size - (intOf t).toNat)
 case atStart => exact ⟨0, Nat.zero_le _, rfl, HI, Lib.hid ((Below.refl _ _).alloc (Nat.le_refl _) _)⟩
 case round =>
  clear HI
  obtain ⟨k, hk, rfl, hb, hbw⟩ := hrel
  have hbsz : w.heap.size ≤ wr.heap.size := hbw.out.size
  by_cases hlt : k < s.size
  ·have hlt' : k < s.data.toList.length := by rw [← Lib.size_eq]; exact hlt
   have hnext := escL_take s.data.toList k hlt'
   have hlen := escL_len (s.data.toList.take k)
   have hl2 : (s.data.toList.take k).length = k := by rw [List.length_take]; omega
   have hlen' : (Lib.byteCells (escL (s.data.toList.take k))).length ≤ 6 * k := by rw [Lib.byteCells_length]; omega
   have HL := Lib.hid hlen'
   have HN := Lib.hid hnext
   obtain ⟨c, hc⟩ : ∃ c, s.data.toList[k] = c := ⟨_, rfl⟩
   have hg : s[k]'hlt = c := by rw [← hc]; rfl
   rw [hc] at hnext
   have HN := Lib.hid hnext
   clear hnext hlen hlen' hl2 hc
   by_cases c1 : c = 38
   ·subst c1
    have hn2 : Hid (Lib.byteCells (escL (s.data.toList.take (k + 1))) = Lib.byteCells (escL (s.data.toList.take k)) ++ Lib.strCells ⟨#[38, 97, 109, 112, 59]⟩) := Lib.hid (by rw [HN.out]; simp [Lib.byteCells, Lib.strCells, escB])
    go_wp2_with (go_at_call 38; refine (writeString w.heap.size w.heap.size _ _ _ hb.out ?h1 ?h2).mono ?_)
    case h1 => have := HL.out; show _ + 5 ≤ _; omega
    case h2 => exact hbsz
    rintro e w1 ⟨rfl, h1, hb1⟩
    have H1 := Lib.hid h1
    have HB1 := Lib.hid hb1
    clear h1 hb1
    go_wp2
    go_roundw
    case rel => exact ⟨k + 1, by omega, by go_num, Lib.hid (by rw [hn2.out]; exact .inr H1.out), Lib.hid (hbw.out.trans HB1.out)⟩
    case measure => simp [intOf]; omega
   by_cases c2 : c = 60
   ·subst c2
    have hn2 : Hid (Lib.byteCells (escL (s.data.toList.take (k + 1))) = Lib.byteCells (escL (s.data.toList.take k)) ++ Lib.strCells ⟨#[38, 108, 116, 59]⟩) := Lib.hid (by rw [HN.out]; simp [Lib.byteCells, Lib.strCells, escB])
    go_wp2_with (go_at_call 38; refine (writeString w.heap.size w.heap.size _ _ _ hb.out ?h1 ?h2).mono ?_)
    case h1 => have := HL.out; show _ + 4 ≤ _; omega
    case h2 => exact hbsz
    rintro e w1 ⟨rfl, h1, hb1⟩
    have H1 := Lib.hid h1
    have HB1 := Lib.hid hb1
    clear h1 hb1
    go_wp2
    go_roundw
    case rel => exact ⟨k + 1, by omega, by go_num, Lib.hid (by rw [hn2.out]; exact .inr H1.out), Lib.hid (hbw.out.trans HB1.out)⟩
    case measure => simp [intOf]; omega
   by_cases c3 : c = 62
   ·subst c3
    have hn2 : Hid (Lib.byteCells (escL (s.data.toList.take (k + 1))) = Lib.byteCells (escL (s.data.toList.take k)) ++ Lib.strCells ⟨#[38, 103, 116, 59]⟩) := Lib.hid (by rw [HN.out]; simp [Lib.byteCells, Lib.strCells, escB])
    go_wp2_with (go_at_call 38; refine (writeString w.heap.size w.heap.size _ _ _ hb.out ?h1 ?h2).mono ?_)
    case h1 => have := HL.out; show _ + 4 ≤ _; omega
    case h2 => exact hbsz
    rintro e w1 ⟨rfl, h1, hb1⟩
    have H1 := Lib.hid h1
    have HB1 := Lib.hid hb1
    clear h1 hb1
    go_wp2
    go_roundw
    case rel => exact ⟨k + 1, by omega, by go_num, Lib.hid (by rw [hn2.out]; exact .inr H1.out), Lib.hid (hbw.out.trans HB1.out)⟩
    case measure => simp [intOf]; omega
   by_cases c4 : c = 34
   ·subst c4
    have hn2 : Hid (Lib.byteCells (escL (s.data.toList.take (k + 1))) = Lib.byteCells (escL (s.data.toList.take k)) ++ Lib.strCells ⟨#[38, 113, 117, 111, 116, 59]⟩) := Lib.hid (by rw [HN.out]; simp [Lib.byteCells, Lib.strCells, escB])
    go_wp2_with (go_at_call 38; refine (writeString w.heap.size w.heap.size _ _ _ hb.out ?h1 ?h2).mono ?_)
    case h1 => have := HL.out; show _ + 6 ≤ _; omega
    case h2 => exact hbsz
    rintro e w1 ⟨rfl, h1, hb1⟩
    have H1 := Lib.hid h1
    have HB1 := Lib.hid hb1
    clear h1 hb1
    go_wp2
    go_roundw
    case rel => exact ⟨k + 1, by omega, by go_num, Lib.hid (by rw [hn2.out]; exact .inr H1.out), Lib.hid (hbw.out.trans HB1.out)⟩
    case measure => simp [intOf]; omega
   have hn2 : Hid (Lib.byteCells (escL (s.data.toList.take (k + 1))) = Lib.byteCells (escL (s.data.toList.take k)) ++ [.int .u8 c.toNat]) := Lib.hid (by rw [HN.out]; unfold escB; rw [if_neg c1, if_neg c2, if_neg c3, if_neg c4]; simp [Lib.byteCells])
   have d1 : ((c.toNat : Int) == 38) = false := num_ne c 38 c1
   have d2 : ((c.toNat : Int) == 60) = false := num_ne c 60 c2
   have d3 : ((c.toNat : Int) == 62) = false := num_ne c 62 c3
   have d4 : ((c.toNat : Int) == 34) = false := num_ne c 34 c4
   clear c1 c2 c3 c4
   go_wp2_with (go_at_call 71; refine (writeByte w.heap.size w.heap.size _ _ _ hb.out ?h1 ?h2).mono ?_)
   case h1 => have := HL.out; omega
   case h2 => exact hbsz
   rintro e w1 ⟨rfl, h1, hb1⟩
   have H1 := Lib.hid h1
   have HB1 := Lib.hid hb1
   clear h1 hb1
   go_wp2
   go_roundw
   case rel => exact ⟨k + 1, by omega, by go_num, Lib.hid (by rw [hn2.out]; exact .inr H1.out), Lib.hid (hbw.out.trans HB1.out)⟩
   case measure => simp [intOf]; omega
  ·have hk' : k = s.size := by omega
   have hfin : escL (s.data.toList.take k) = escL s.data.toList := by rw [List.take_of_length_le (by rw [← Lib.size_eq]; omega)]
   have HB := hb.out
   rw [hfin] at HB
   have HB' := Lib.hid HB
   clear HB hfin
   have hge : decide ((k : Int) < (s.size : Int)) = false := by simp; omega
   clear hk'
   go_wp2_with (go_at_call 43; refine (Tryz.Builder_String_any w.heap.size w.heap.size _ _ HB'.out hbsz).mono ?_)
   rintro e w1 ⟨rfl, hb1⟩
   have HB1 := Lib.hid hb1
   clear hb1
   go_wp2
   go_ret
   exact ⟨rfl, hbw.out.trans HB1.out⟩
namespace X
end X
end Go.Proofs.YtlhhhlimjajnlaaGreat
end
section
set_option linter.unusedVariables false
set_option linter.unusedSimpArgs false
namespace Go.Proofs.YtlhhhlimjajnlaaGreat.X
open Go.RowKit Go.Proofs.YtlhhhlimjajnlaaGreat Go.Proofs.YtlhhhlimjajnlaaGreat.Q Go.Proofs.YtlhhhlimjajnlaaGreatW.PrintWords Go.Proofs.YtlhhhlimjajnlaaGreatW.PrintLast Go.Proofs.YtlhhhlimjajnlaaGreatW.PrintMore
variable {w0 W : World} {g : Nat} {d : ByteArray} {a : Int} {ts : List Tok} {x : Bool}
theorem entersB (a : Array Value) (w : World) : Sem.run Tryz.prog (callFunc 77 a) w = .ok (.enter 77 a) w := by kernel_rfl
set_option maxHeartbeats 4000000 in
set_option maxRecDepth 100000 in
theorem begins_c (w : World) (h : Rd w0 w g d a ts x) (b : Nat) (hb : w.cell? ⟨b, 0, none⟩ = some (.pointer (some ⟨g, 0, none⟩))) (s : ByteArray) (h0 : 0 ≤ a) :
 Calls Tryz.prog 77 #[.string s, .pointer (some ⟨b, 0, none⟩)] w fun e w' => e = .returned (.bool (standsB d a s)) ∧ ∃ n, w' = w.drewN n := by
 have hc1 := h.c1
 have H := Lib.hid h
 have hP : ∀ W : World, Rd w0 W g d a ts x → Calls Tryz.prog 78 #[.pointer (some ⟨g, 0, none⟩), .int .i64 a, .string s] W fun e w' => e = .returned (.bool (standsB d a s)) ∧ Drawn0 W w' := fun W hW =>
  (stands_c W hW a s h0).mono fun e w' he => ⟨he.1, by obtain ⟨n, hn⟩ := he.2; exact ⟨n, hn⟩⟩
 clear h
 go_enter Tryz.func77, Tryz.ntmps77
 go_wp2_with (first | (go_at_call 78; (with_reducible refine (hP _ (by first | exact H.out | exact H.out.drewN _ | exact H.out.drew)).mono ?_); rintro e w' ⟨rfl, ⟨nd, rfl⟩⟩; (try first | exact ⟨rfl, _, World.drewN_drewN _ _ _⟩ | exact ⟨rfl, _, Eq.trans (World.drewN_drewN _ _ _) (congrArg (World.drewN _) (Nat.add_assoc _ _ _))⟩)))
 repeat (go_quiet (first | (go_at_call 78; (with_reducible refine (hP _ (by first | exact H.out | exact H.out.drewN _ | exact H.out.drew)).mono ?_); rintro e w' ⟨rfl, ⟨nd, rfl⟩⟩; (try first | exact ⟨rfl, _, World.drewN_drewN _ _ _⟩ | exact ⟨rfl, _, Eq.trans (World.drewN_drewN _ _ _) (congrArg (World.drewN _) (Nat.add_assoc _ _ _))⟩))); try go_wp2)
 go_ret
 exact ⟨rfl, _, rfl⟩
def nextK (d : ByteArray) (a : Int) : Nat :=
 if standsB d a ⟨#[60, 33, 45, 45]⟩ = true then 79
 else if standsB d a ⟨#[60, 33, 91, 67, 68, 65, 84, 65, 91]⟩ = true then 80
 else if standsB d a ⟨#[60, 47]⟩ = true then 81
 else if standsB d a ⟨#[60]⟩ = true then 82
 else 83
set_option maxHeartbeats 8000000 in
set_option maxRecDepth 100000 in
theorem next_c (w : World) (h : Rd w0 w g d a ts x) (h0 : 0 ≤ a) :
 Calls Tryz.prog 56 #[.pointer (some ⟨g, 0, none⟩)] w fun e w' => e = .returned (.func (.func (nextK d a)) #[.pointer (some ⟨g, 0, none⟩)] #[]) ∧ Below w.heap.size w w' := by
 have H := Lib.hid h
 have hE := entersB
 obtain ⟨k, hk⟩ : ∃ k, nextK d a = k := ⟨_, rfl⟩
 rw [hk]
 unfold nextK at hk
 obtain ⟨s1, hs1⟩ : ∃ s, standsB d a ⟨#[60, 33, 45, 45]⟩ = s := ⟨_, rfl⟩
 obtain ⟨s2, hs2⟩ : ∃ s, standsB d a ⟨#[60, 33, 91, 67, 68, 65, 84, 65, 91]⟩ = s := ⟨_, rfl⟩
 obtain ⟨s3, hs3⟩ : ∃ s, standsB d a ⟨#[60, 47]⟩ = s := ⟨_, rfl⟩
 obtain ⟨s4, hs4⟩ : ∃ s, standsB d a ⟨#[60]⟩ = s := ⟨_, rfl⟩
 rw [hs1, hs2, hs3, hs4] at hk
 clear h
 cases s1 with
 | true =>
  rw [if_pos rfl] at hk
  subst hk
  go_enter Tryz.func56, Tryz.ntmps56
  go_wp2_with (go_at_call 77; (with_reducible refine (begins_c (w0 := w0) (g := g) (d := d) (a := a) (ts := ts) (x := x) _ (zz13) w.heap.size (by simp [World.cell?_alloc_some]) _ h0).mono ?_); rintro e w' ⟨rfl, n_, rfl⟩)
  go_ret
  exact ⟨rfl, zz18⟩
 | false =>
 rw [if_neg (by decide)] at hk
 cases s2 with
 | true =>
  rw [if_pos rfl] at hk
  subst hk
  go_enter Tryz.func56, Tryz.ntmps56
  go_wp2_with (go_at_call 77; (with_reducible refine (begins_c (w0 := w0) (g := g) (d := d) (a := a) (ts := ts) (x := x) _ (zz13) w.heap.size (by simp [World.cell?_alloc_some]) _ h0).mono ?_); rintro e w' ⟨rfl, n_, rfl⟩)
  go_ret
  exact ⟨rfl, zz18⟩
 | false =>
 rw [if_neg (by decide)] at hk
 cases s3 with
 | true =>
  rw [if_pos rfl] at hk
  subst hk
  go_enter Tryz.func56, Tryz.ntmps56
  go_wp2_with (go_at_call 77; (with_reducible refine (begins_c (w0 := w0) (g := g) (d := d) (a := a) (ts := ts) (x := x) _ (zz13) w.heap.size (by simp [World.cell?_alloc_some]) _ h0).mono ?_); rintro e w' ⟨rfl, n_, rfl⟩)
  go_ret
  exact ⟨rfl, zz18⟩
 | false =>
 rw [if_neg (by decide)] at hk
 cases s4 with
 | true =>
  rw [if_pos rfl] at hk
  subst hk
  go_enter Tryz.func56, Tryz.ntmps56
  go_wp2_with (go_at_call 77; (with_reducible refine (begins_c (w0 := w0) (g := g) (d := d) (a := a) (ts := ts) (x := x) _ (zz13) w.heap.size (by simp [World.cell?_alloc_some]) _ h0).mono ?_); rintro e w' ⟨rfl, n_, rfl⟩)
  go_ret
  exact ⟨rfl, zz18⟩
 | false =>
  rw [if_neg (by decide)] at hk
  subst hk
  go_enter Tryz.func56, Tryz.ntmps56
  go_wp2_with (go_at_call 77; (with_reducible refine (begins_c (w0 := w0) (g := g) (d := d) (a := a) (ts := ts) (x := x) _ (zz13) w.heap.size (by simp [World.cell?_alloc_some]) _ h0).mono ?_); rintro e w' ⟨rfl, n_, rfl⟩)
  go_ret
  exact ⟨rfl, zz18⟩
end Go.Proofs.YtlhhhlimjajnlaaGreat.X
end
section
set_option linter.unusedVariables false
set_option linter.unusedSimpArgs false
namespace Go.Proofs.YtlhhhlimjajnlaaGreat.Ck
open Go.RowKit Go.Proofs.YtlhhhlimjajnlaaGreat Go.Proofs.YtlhhhlimjajnlaaGreat.Q Go.Proofs.YtlhhhlimjajnlaaGreatW.PrintWords
abbrev Nd := S41
abbrev nz : Nd := ⟨0, 0, 0, ⟨#[]⟩⟩
variable {κ : Type}
def kids (l : List (Nd × κ)) (p : Int) : List (Nd × κ) := l.filter fun c => decide (c.1.f2 = p)
def more (l : List (Nd × κ)) (p : Int) : Bool := (kids l p).any fun c => decide (¬ c.1.f0 = 2)
def textLast (l : List (Nd × κ)) (p : Int) : Bool := match (kids l p).getLast? with | some c => decide (c.1.f0 = 3) | none => false
def Path (l : List (Nd × κ)) (op : List Int) : Prop :=
 ∀ (j : Nat) (z : Int), op[j]? = some z → 0 ≤ z ∧ z < (l.length : Int) ∧ (∃ c, l[z.toNat]? = some c ∧ c.1.f0 = 1 ∧ c.1.f2 = if j = 0 then -1 else op.getD (j - 1) 0) ∧ (j = 0 → z = 0) ∧ (0 < j → op.getD (j - 1) 0 < z)
theorem Path.take {l : List (Nd × κ)} {op : List Int} (h : Path l op) (n : Nat) : Path l (op.take n) := by
 intro j z hz
 rw [List.getElem?_take] at hz
 split at hz
 ·rename_i hj
  obtain ⟨h1, h2, ⟨c, h3, h4, h5⟩, h6, h7⟩ := h j z hz
  have e : (op.take n).getD (j - 1) 0 = op.getD (j - 1) 0 := by
   rw [List.getD_eq_getElem?_getD, List.getD_eq_getElem?_getD, List.getElem?_take_of_lt (by omega)]
  exact ⟨h1, h2, ⟨c, h3, h4, by rw [e]; exact h5⟩, h6, fun hp => by rw [e]; exact h7 hp⟩
 ·cases hz
theorem Path.put {l : List (Nd × κ)} {op : List Int} (h : Path l op) (c : Nd × κ) : Path (l ++ [c]) op := by
 intro j z hz
 obtain ⟨h1, h2, ⟨d, h3, h4, h5⟩, h6, h7⟩ := h j z hz
 refine ⟨h1, zz36, ⟨d, ?_, h4, h5⟩, h6, h7⟩
 rw [List.getElem?_append_left (by omega)]; exact h3
theorem Path.begin {l : List (Nd × κ)} {op : List Int} (h : Path l op) (c : Nd × κ) (h0 : op = [] → l = []) (hc : c.1.f0 = 1) (hp : c.1.f2 = op.getLast?.getD (-1)) : Path (l ++ [c]) (op ++ [(l.length : Int)]) := by
 intro j z hz
 by_cases hj : j < op.length
 ·rw [List.getElem?_append_left hj] at hz
  obtain ⟨h1, h2, h3, h4, h5⟩ := h.put c j z hz
  have e : (op ++ [(l.length : Int)]).getD (j - 1) 0 = op.getD (j - 1) 0 := by
   rw [List.getD_eq_getElem?_getD, List.getD_eq_getElem?_getD, List.getElem?_append_left (by omega)]
  rw [e]; exact ⟨h1, h2, h3, h4, h5⟩
 ·rw [List.getElem?_append_right (by omega)] at hz
  have hj2 : j - op.length = 0 := by
   have := (List.getElem?_eq_some_iff.1 hz).1
   rw [List.length_singleton] at this; omega
  rw [hj2] at hz
  have hz : (l.length : Int) = z := Option.some.inj hz
  subst hz
  have hjl : j = op.length := by omega
  subst hjl
  refine ⟨by omega, zz35, ⟨c, ?_, hc, ?_⟩, ?_, ?_⟩
  ·rw [Int.toNat_natCast, List.getElem?_append_right (Nat.le_refl _), Nat.sub_self]; rfl
  ·rw [hp]
   rcases List.eq_nil_or_concat op with h' | ⟨pre, y, h'⟩
   ·rw [h']; rfl
   ·rw [h', List.concat_eq_append, List.getLast?_concat, List.length_append, List.length_singleton, if_neg (by omega), List.getD_eq_getElem?_getD, Nat.add_sub_cancel, List.getElem?_append_left (zz35), List.getElem?_append_right (Nat.le_refl _), Nat.sub_self]; rfl
  ·intro h'
   have : op = [] := List.eq_nil_of_length_eq_zero h'
   rw [h0 this]; rfl
  ·intro h'
   rcases List.eq_nil_or_concat op with h'' | ⟨pre, y, h''⟩
   ·rw [h''] at h'; exact absurd h' (by decide)
   ·have hy := h (op.length - 1) y (by rw [h'', List.concat_eq_append, List.length_append, List.length_singleton, Nat.add_sub_cancel, List.getElem?_append_right (Nat.le_refl _), Nat.sub_self]; rfl)
    have : (op ++ [(l.length : Int)]).getD (op.length - 1) 0 = y := by
     rw [List.getD_eq_getElem?_getD, List.getElem?_append_left (by omega)]
     rw [h'', List.concat_eq_append, List.length_append, List.length_singleton, Nat.add_sub_cancel, List.getElem?_append_right (Nat.le_refl _), Nat.sub_self]; rfl
    rw [this]; exact hy.2.1
theorem Path.lt {l : List (Nd × κ)} {op : List Int} (h : Path l op) : ∀ (d i : Nat) (a b : Int), op[i]? = some a → op[i + d + 1]? = some b → a < b
 | 0, i, a, b, ha, hb => by
  have := (h (i + 1) b hb).2.2.2.2 (by omega)
  rw [Nat.add_sub_cancel, List.getD_eq_getElem?_getD, ha] at this
  exact this
 | d + 1, i, a, b, ha, hb => by
  have hl := (List.getElem?_eq_some_iff.1 hb).1
  have hm : op[i + d + 1]? = some op[i + d + 1] := List.getElem?_eq_getElem (by omega)
  have h1 := h.lt d i a _ ha hm
  have h2 := (h (i + (d + 1) + 1) b hb).2.2.2.2 (by omega)
  rw [show i + (d + 1) + 1 - 1 = i + d + 1 from by omega, List.getD_eq_getElem?_getD, hm] at h2
  have h2 : op[i + d + 1] < b := h2
  omega
theorem Path.idx {l : List (Nd × κ)} {op : List Int} (h : Path l op) (j : Nat) (z : Int) (hz : op[j]? = some z) : op.idxOf z = j := by
 have hlt := (List.getElem?_eq_some_iff.1 hz).1
 have hmem : z ∈ op := List.mem_of_getElem? hz
 have h1 := List.idxOf_lt_length_of_mem hmem
 have h2 : op[op.idxOf z]? = some z := by rw [List.getElem?_eq_getElem h1, List.getElem_idxOf]
 rcases Nat.lt_trichotomy (op.idxOf z) j with c | c | c
 ·have := h.lt (j - op.idxOf z - 1) _ z z h2 (by rw [show op.idxOf z + (j - op.idxOf z - 1) + 1 = j from by omega]; exact hz)
  omega
 ·exact c
 ·have := h.lt (op.idxOf z - j - 1) _ z z hz (by rw [show j + (op.idxOf z - j - 1) + 1 = op.idxOf z from by omega]; exact h2)
  omega
variable [DecidableEq κ]
def twice (l : List (Nd × κ)) (p : Int) (k : κ) : Bool := (kids l p).any fun c => decide (c.1.f0 = 2) && decide (c.2 = k)
def right (l : List (Nd × κ)) (op : List Int) (m : Nd) (k : κ) : Option (List Int) :=
 if l = [] then (if m.f0 = 1 ∧ m.f2 = -1 then some [0] else none)
 else if m.f2 ∈ op then
  let o := op.take (op.idxOf m.f2 + 1)
  if m.f0 = 1 then (if 64 < o.length then none else some (o ++ [(l.length : Int)]))
  else if m.f0 = 2 then (if more l m.f2 = true ∨ twice l m.f2 k = true then none else some o)
  else if textLast l m.f2 = true then none else some o
 else none
def run (l : List (Nd × κ)) : List (Nd × κ) → List Int → Option (List (Nd × κ) × List Int)
 | [], op => some (l, op)
 | c :: r, op => match right l op c.1 c.2 with
  | none => none
  | some o => run (l ++ [c]) r o
def rows (l : List (Nd × κ)) : Option (List Int) := (run [] l []).map Prod.snd
theorem run_fst : ∀ (r l : List (Nd × κ)) (op : List Int) (x : List (Nd × κ) × List Int), run l r op = some x → x.1 = l ++ r
 | [], l, op, x, h => by obtain rfl := Option.some.inj h; simp
 | c :: r, l, op, x, h => by
  unfold run at h
  cases hr : right l op c.1 c.2 with
  | none => rw [hr] at h; cases h
  | some o =>
   rw [hr] at h
   rw [run_fst r _ _ _ h]; simp
theorem run_append : ∀ (r t l : List (Nd × κ)) (op : List Int), run l (r ++ t) op = (run l r op).bind fun x => run x.1 t x.2
 | [], t, l, op => rfl
 | c :: r, t, l, op => by
  rw [List.cons_append, run, run]
  cases hr : right l op c.1 c.2 with
  | none => rfl
  | some o => exact run_append r t _ _
theorem rows_snoc (l : List (Nd × κ)) (c : Nd × κ) (op : List Int) (h : rows l = some op) : rows (l ++ [c]) = right l op c.1 c.2 := by
 unfold rows at h ⊢
 rw [run_append]
 cases hr : run [] l [] with
 | none => rw [hr] at h; cases h
 | some x =>
  rw [hr] at h
  have h : x.2 = op := Option.some.inj h
  have h1 := run_fst _ _ _ _ hr
  rw [Option.bind_some, run, h, h1, List.nil_append]
  cases hq : right l op c.1 c.2 with
  | none => rfl
  | some o => rfl
theorem rows_take (l t : List (Nd × κ)) (op : List Int) (h : rows (l ++ t) = some op) : ∃ o, rows l = some o := by
 unfold rows at h ⊢
 rw [run_append] at h
 cases hr : run [] l [] with
 | none => rw [hr] at h; cases h
 | some x => exact ⟨x.2, rfl⟩
theorem rows_at (l t : List (Nd × κ)) (c : Nd × κ) (op : List Int) (h : rows (l ++ c :: t) = some op) : ∃ o o', rows l = some o ∧ right l o c.1 c.2 = some o' ∧ rows (l ++ [c]) = some o' := by
 obtain ⟨o, ho⟩ := rows_take l _ _ h
 rw [List.append_cons] at h
 obtain ⟨o', ho'⟩ := rows_take (l ++ [c]) t _ h
 exact ⟨o, o', ho, by rw [← rows_snoc l c o ho]; exact ho', ho'⟩
theorem right_path {l : List (Nd × κ)} {op o : List Int} {c : Nd × κ} (hp : Path l op) (hn : l = [] → op = []) (h : right l op c.1 c.2 = some o) : Path (l ++ [c]) o ∧ ¬ o = [] := by
 unfold right at h
 by_cases hl : l = []
 ·rw [if_pos hl] at h
  split at h
  ·rename_i hc
   obtain rfl := Option.some.inj h
   have := hp.begin c (fun _ => hl) hc.1 (by rw [hn hl]; exact hc.2)
   rw [hn hl, hl] at this
   rw [hl]; exact ⟨this, by simp⟩
  ·cases h
 ·rw [if_neg hl] at h
  by_cases hm : c.1.f2 ∈ op
  ·rw [if_pos hm] at h
   simp only at h
   have hlt := List.idxOf_lt_length_of_mem hm
   have hne : ¬ op.take (op.idxOf c.1.f2 + 1) = [] := by
    intro e
    have := congrArg List.length e
    rw [List.length_take, List.length_nil] at this; omega
   split at h
   ·rename_i h1
    split at h
    ·cases h
    ·obtain rfl := Option.some.inj h
     refine ⟨(hp.take _).begin c (fun e => absurd e hne) h1 ?_, by simp⟩
     rw [List.getLast?_eq_getElem?, List.length_take, Nat.min_eq_left (by omega), Nat.add_sub_cancel, List.getElem?_take_of_lt (by omega), List.getElem?_eq_getElem hlt, List.getElem_idxOf]; rfl
   ·split at h
    ·split at h
     ·cases h
     ·obtain rfl := Option.some.inj h
      exact ⟨(hp.take _).put c, hne⟩
    ·split at h
     ·cases h
     ·obtain rfl := Option.some.inj h
      exact ⟨(hp.take _).put c, hne⟩
  ·rw [if_neg hm] at h; cases h
theorem rows_path : ∀ (n : Nat) (l : List (Nd × κ)) (op : List Int), l.length = n → rows l = some op → Path l op ∧ (l = [] ↔ op = [])
 | 0, l, op, hn, h => by
  have : l = [] := List.eq_nil_of_length_eq_zero hn
  subst this
  obtain rfl := Option.some.inj h
  exact ⟨fun j z hz => by simp at hz, by simp⟩
 | n + 1, l, op, hn, h => by
  rcases List.eq_nil_or_concat l with h' | ⟨pre, c, h'⟩
  ·rw [h'] at hn; exact absurd hn (by simp)
  ·rw [List.concat_eq_append] at h'
   subst h'
   obtain ⟨o, o', h1, h2, h3⟩ := rows_at pre [] c op h
   rw [h3] at h
   obtain rfl := Option.some.inj h
   have hpre : pre.length = n := by rw [List.length_append, List.length_singleton] at hn; omega
   obtain ⟨p1, p2⟩ := rows_path n pre o hpre h1
   obtain ⟨r1, r2⟩ := right_path p1 p2.1 h2
   exact ⟨r1, by simp [r2]⟩
section
variable {κ : Type}
theorem kids_snoc (l : List (Nd × κ)) (c : Nd × κ) (p : Int) : kids (l ++ [c]) p = if c.1.f2 = p then kids l p ++ [c] else kids l p := by
 unfold kids
 rw [List.filter_append]
 by_cases h : c.1.f2 = p
 ·rw [if_pos h, List.filter_cons_of_pos (by simpa using h)]; rfl
 ·rw [if_neg h, List.filter_cons_of_neg (by simpa using h)]; simp
theorem text_snoc (l : List (Nd × κ)) (c : Nd × κ) (p : Int) : textLast (l ++ [c]) p = if c.1.f2 = p then decide (c.1.f0 = 3) else textLast l p := by
 unfold textLast
 rw [kids_snoc]
 by_cases h : c.1.f2 = p
 ·rw [if_pos h, if_pos h, List.getLast?_concat]
 ·rw [if_neg h, if_neg h]
variable [DecidableEq κ]
theorem rows_low (l : List (Nd × κ)) (op : List Int) (h : rows l = some op) (i : Nat) (c : Nd × κ) (hc : l[i]? = some c) :
 ∃ o o', rows (l.take i) = some o ∧ right (l.take i) o c.1 c.2 = some o' ∧ (i = 0 → c.1.f0 = 1 ∧ c.1.f2 = -1) ∧ (0 < i → 0 ≤ c.1.f2 ∧ c.1.f2 < (i : Int) ∧ c.1.f2 ∈ o ∧ ∃ d, l[c.1.f2.toNat]? = some d ∧ d.1.f0 = 1) := by
 obtain ⟨hi, rfl⟩ := List.getElem?_eq_some_iff.1 hc
 have hsp : l = l.take i ++ l[i] :: l.drop (i + 1) := by rw [List.getElem_cons_drop, List.take_append_drop]
 rw [hsp] at h
 obtain ⟨o, o', h1, h2, h3⟩ := rows_at _ _ _ _ h
 obtain ⟨p1, p2⟩ := rows_path _ _ _ rfl h1
 refine ⟨o, o', h1, h2, fun h0 => ?_, fun h0 => ?_⟩
 ·subst h0
  unfold right at h2
  rw [if_pos (by simp)] at h2
  split at h2
  ·rename_i hc; exact hc
  ·cases h2
 ·have hne : ¬ l.take i = [] := by
   intro e
   have := congrArg List.length e
   rw [List.length_take, List.length_nil] at this; omega
  unfold right at h2
  rw [if_neg hne] at h2
  by_cases hm : l[i].1.f2 ∈ o
  ·have hj := List.idxOf_lt_length_of_mem hm
   have hz : o[o.idxOf l[i].1.f2]? = some l[i].1.f2 := by rw [List.getElem?_eq_getElem hj, List.getElem_idxOf]
   obtain ⟨q1, q2, ⟨d, q3, q4, -⟩, -⟩ := p1 _ _ hz
   rw [List.length_take] at q2
   refine ⟨q1, by omega, hm, d, ?_, q4⟩
   rw [List.getElem?_take_of_lt (by omega)] at q3; exact q3
  ·rw [if_neg hm] at h2; cases h2
theorem kids_behind (l : List (Nd × κ)) (op : List Int) (h : rows l = some op) (p : Int) (hp : 0 ≤ p) (c : Nd × κ) (hc : c ∈ kids l p) : ∃ i : Nat, l[i]? = some c ∧ p < (i : Int) ∧ c.1.f2 = p := by
 unfold kids at hc
 rw [List.mem_filter] at hc
 obtain ⟨hm, hq⟩ := hc
 have hq : c.1.f2 = p := by simpa using hq
 obtain ⟨i, hi⟩ := List.mem_iff_getElem?.1 hm
 obtain ⟨o, o', -, -, r1, r2⟩ := rows_low l op h i c hi
 refine ⟨i, hi, ?_, hq⟩
 rcases Nat.eq_zero_or_pos i with h0 | h0
 ·have := (r1 h0).2; omega
 ·have := (r2 h0).2.1; omega
theorem kids_none (l : List (Nd × κ)) (op : List Int) (h : rows l = some op) : kids l (l.length : Int) = [] := by
 cases hk : kids l (l.length : Int) with
 | nil => rfl
 | cons c t =>
  obtain ⟨i, h1, h2, -⟩ := kids_behind l op h (l.length : Int) (by omega) c (by rw [hk]; exact List.mem_cons_self ..)
  have := (List.getElem?_eq_some_iff.1 h1).1
  omega
end
end Go.Proofs.YtlhhhlimjajnlaaGreat.Ck
end
section
set_option linter.unusedVariables false
set_option linter.unusedSimpArgs false
namespace Go.Proofs.YtlhhhlimjajnlaaGreat.P14
open Go.RowKit Go.Proofs.YtlhhhlimjajnlaaGreat Go.Proofs.YtlhhhlimjajnlaaGreat.Q Go.Proofs.YtlhhhlimjajnlaaGreatW.PrintWords Go.Proofs.YtlhhhlimjajnlaaGreat.X Go.Proofs.YtlhhhlimjajnlaaGreat.Ck
def prK (l : List Nod) : List (Nd × Int) := l.map fun x => (x, x.f1)
theorem prK_app (a b : List Nod) : prK (a ++ b) = prK a ++ prK b := List.map_append
theorem prK_len (a : List Nod) : (prK a).length = a.length := List.length_map _
theorem prK_nil {a : List Nod} : prK a = [] ↔ a = [] := List.map_eq_nil_iff
def atts (l : List (Nd × Int)) (p : Int) : List Int := ((kids l p).filter fun c => decide (c.1.f0 = 2)).map fun c => c.2
theorem twice_atts (l : List (Nd × Int)) (p k : Int) : twice l p k = decide (k ∈ atts l p) := by
 unfold twice atts
 rw [Bool.eq_iff_iff, List.any_eq_true, decide_eq_true_eq, List.mem_map]
 constructor
 ·rintro ⟨c, h1, h2⟩
  rw [Bool.and_eq_true, decide_eq_true_eq, decide_eq_true_eq] at h2
  exact ⟨c, List.mem_filter.2 ⟨h1, by simpa using h2.1⟩, h2.2⟩
 ·rintro ⟨c, h1, h2⟩
  rw [List.mem_filter, decide_eq_true_eq] at h1
  exact ⟨c, h1.1, by rw [Bool.and_eq_true, decide_eq_true_eq, decide_eq_true_eq]; exact ⟨h1.2, h2⟩⟩
theorem more_snoc (l : List (Nd × Int)) (c : Nd × Int) (p : Int) : more (l ++ [c]) p = if c.1.f2 = p then (more l p || decide (¬ c.1.f0 = 2)) else more l p := by
 unfold more
 rw [kids_snoc]
 by_cases h : c.1.f2 = p
 ·rw [if_pos h, if_pos h, List.any_append]; simp
 ·rw [if_neg h, if_neg h]
theorem atts_snoc (l : List (Nd × Int)) (c : Nd × Int) (p : Int) : atts (l ++ [c]) p = if c.1.f2 = p ∧ c.1.f0 = 2 then atts l p ++ [c.2] else atts l p := by
 unfold atts
 rw [kids_snoc]
 by_cases h : c.1.f2 = p
 ·rw [if_pos h, List.filter_append, List.map_append]
  by_cases h2 : c.1.f0 = 2
  ·rw [if_pos ⟨h, h2⟩]; simp [h2]
  ·rw [if_neg (fun e => h2 e.2)]; simp [h2]
 ·rw [if_neg h, if_neg (fun e => h e.1)]
theorem kids_far (l : List (Nd × Int)) (op : List Int) (h : rows l = some op) (p : Nat) (hp : l.length ≤ p) : kids l (p : Int) = [] := by
 cases hk : kids l (p : Int) with
 | nil => rfl
 | cons c t =>
  obtain ⟨i, h1, h2, -⟩ := kids_behind l op h (p : Int) (by omega) c (by rw [hk]; exact List.mem_cons_self ..)
  have := (List.getElem?_eq_some_iff.1 h1).1
  omega
structure CI (n : Nat) (P : List Nod) (s : CS) : Prop where
 r : rows (prK P) = some s.op
 ml : s.m.length = n
 tl : s.t.length = n
 m : ∀ p : Nat, s.m.getD p false = more (prK P) p
 t : ∀ p : Nat, s.t.getD p false = textLast (prK P) p
 a : ∀ p : Nat, (s.a p).getD [] = atts (prK P) p
theorem getD_set {α : Type} (l : List α) (i j : Nat) (x d : α) (h : i < l.length) : (l.set i x).getD j d = if i = j then x else l.getD j d := by
 rw [List.getD_eq_getElem?_getD, List.getD_eq_getElem?_getD, List.getElem?_set]
 by_cases e : i = j
 ·rw [if_pos e, if_pos e, if_pos h]; rfl
 ·rw [if_neg e, if_neg e]
theorem CI.zero (n : Nat) : CI n [] (zeroC n) := by
 refine ⟨rfl, by simp [zeroC], by simp [zeroC], fun p => ?_, fun p => ?_, fun p => rfl⟩
 ·show (List.replicate n false).getD p false = false
  rw [List.getD_eq_getElem?_getD, List.getElem?_replicate]; split <;> rfl
 ·show (List.replicate n false).getD p false = false
  rw [List.getD_eq_getElem?_getD, List.getElem?_replicate]; split <;> rfl
theorem place_some {op : List Int} {p : Int} (h : p ∈ op) : placeP op p = some (op.take (op.idxOf p + 1)) := if_pos h
theorem place_none {op : List Int} {p : Int} (h : ¬ p ∈ op) : placeP op p = none := if_neg h
theorem CI.step {n nn : Nat} {P : List Nod} {s : CS} {x : Nod} (h : CI n P s) (hn : P.length < n) (hx : x.f0 = 1 ∨ x.f0 = 2 ∨ x.f0 = 3) :
 match rightC s P.length x with
 | none => right (prK P) s.op x x.f1 = none
 | some s' => right (prK P) s.op x x.f1 = some (openC s' P.length x).op ∧ CI n (P ++ [x]) (openC s' P.length x) := by
 obtain ⟨p1, p2⟩ := rows_path _ _ _ rfl h.r
 have hap : prK (P ++ [x]) = prK P ++ [(x, x.f1)] := prK_app _ _
 have rowOf : ∀ o, right (prK P) s.op x x.f1 = some o → rows (prK (P ++ [x])) = some o := fun o e => by rw [hap, rows_snoc _ _ _ h.r]; exact e
 unfold rightC
 by_cases h0 : P.length = 0
 ·have hP : P = [] := List.eq_nil_of_length_eq_zero h0
  subst hP
  have hop : s.op = [] := p2.1 rfl
  rw [if_pos h0]
  by_cases c : x.f0 = 1 ∧ x.f2 = -1
  ·rw [if_pos c]
   have hr : right (prK []) s.op x x.f1 = some [0] := by
    unfold right; rw [if_pos (show prK [] = [] from rfl), if_pos c]
   have ho : (openC s ([] : List Nod).length x) = ⟨[0], s.m, s.t, fun p => if p = 0 then some [] else s.a p⟩ := by
    unfold openC; rw [if_pos c.1, hop]; rfl
   simp only
   rw [ho]
   refine ⟨hr, rowOf _ hr, h.ml, h.tl, fun p => ?_, fun p => ?_, fun p => ?_⟩
   ·rw [hap, more_snoc, if_neg (by show ¬ x.f2 = _; omega)]; exact h.m p
   ·rw [hap, text_snoc, if_neg (by show ¬ x.f2 = _; omega)]; exact h.t p
   ·rw [hap, atts_snoc, if_neg (by show ¬ (x.f2 = _ ∧ _); omega)]
    show (if p = 0 then some [] else s.a p).getD [] = _
    by_cases e : p = 0
    ·rw [if_pos e]; rfl
    ·rw [if_neg e]; exact h.a p
  ·rw [if_neg c]
   show right (prK []) s.op x x.f1 = none
   unfold right; rw [if_pos (show prK [] = [] from rfl), if_neg c]
 ·have hne : ¬ prK P = [] := fun e => h0 (by rw [prK_nil.1 e]; rfl)
  rw [if_neg h0]
  unfold right
  rw [if_neg hne]
  by_cases hm : x.f2 ∈ s.op
  ·rw [place_some hm, if_pos hm]
   simp only
   obtain ⟨j, hj⟩ := List.mem_iff_getElem?.1 hm
   obtain ⟨z1, z2, -⟩ := p1 j _ hj
   rw [prK_len] at z2
   have hcast : ((x.f2.toNat : Nat) : Int) = x.f2 := by omega
   have ht : x.f2.toNat < n := by omega
   have key : ∀ p : Nat, (x.f2 = (p : Int)) ↔ x.f2.toNat = p := fun p => by omega
   have hmore : s.m.getD x.f2.toNat false = more (prK P) x.f2 := by rw [h.m, hcast]
   have htext : s.t.getD x.f2.toNat false = textLast (prK P) x.f2 := by rw [h.t, hcast]
   have hatt : (s.a x.f2.toNat).getD [] = atts (prK P) x.f2 := by rw [h.a, hcast]
   have hrr : ∀ o, right (prK P) s.op x x.f1 = some o → rows (prK (P ++ [x])) = some o := rowOf
   unfold right at hrr
   rw [if_neg hne, if_pos hm] at hrr
   simp only at hrr
   rw [hmore, htext, hatt]
   by_cases k1 : x.f0 = 1
   ·rw [if_pos k1]
    rw [if_pos k1] at hrr
    by_cases kd : 64 < (s.op.take (s.op.idxOf x.f2 + 1)).length
    ·rw [if_pos ⟨k1, kd⟩, if_pos kd]
    ·rw [if_neg (fun e => kd e.2), if_neg (by omega), if_neg (by omega), if_neg kd]
     rw [if_neg kd] at hrr
     simp only
     unfold openC
     rw [if_pos k1]
     rw [prK_len] at hrr ⊢
     refine ⟨rfl, hrr _ rfl, (List.length_set ..).trans h.ml, (List.length_set ..).trans h.tl, fun p => ?_, fun p => ?_, fun p => ?_⟩
     ·rw [hap, more_snoc, getD_set _ _ _ _ _ (by rw [h.ml]; exact ht)]
      by_cases e : x.f2.toNat = p
      ·rw [if_pos e, if_pos ((key p).2 e)]; simp [k1]
      ·rw [if_neg e, if_neg (fun e' => e ((key p).1 e'))]; exact h.m p
     ·rw [hap, text_snoc, getD_set _ _ _ _ _ (by rw [h.tl]; exact ht)]
      by_cases e : x.f2.toNat = p
      ·rw [if_pos e, if_pos ((key p).2 e)]; simp [k1]
      ·rw [if_neg e, if_neg (fun e' => e ((key p).1 e'))]; exact h.t p
     ·rw [hap, atts_snoc, if_neg (by show ¬ (x.f2 = _ ∧ x.f0 = 2); omega)]
      show (if p = P.length then some [] else s.a p).getD [] = _
      by_cases e : p = P.length
      ·rw [if_pos e]
       unfold atts
       rw [kids_far _ _ h.r p (by rw [prK_len]; omega)]; rfl
      ·rw [if_neg e]; exact h.a p
   ·rw [if_neg k1, if_neg (fun e => k1 e.1)]
    rw [if_neg k1] at hrr
    by_cases k2 : x.f0 = 2
    ·rw [if_pos k2, if_pos k2]
     rw [if_pos k2] at hrr
     by_cases kd : more (prK P) x.f2 = true ∨ x.f1 ∈ atts (prK P) x.f2
     ·have kd' : more (prK P) x.f2 = true ∨ twice (prK P) x.f2 x.f1 = true := by rw [twice_atts, decide_eq_true_eq]; exact kd
      rw [if_pos kd, if_pos kd']
     ·have kd' : ¬ (more (prK P) x.f2 = true ∨ twice (prK P) x.f2 x.f1 = true) := by rw [twice_atts, decide_eq_true_eq]; exact kd
      rw [if_neg kd, if_neg kd']
      rw [if_neg kd'] at hrr
      simp only
      unfold openC
      rw [if_neg k1]
      refine ⟨rfl, hrr _ rfl, h.ml, h.tl, fun p => ?_, fun p => ?_, fun p => ?_⟩
      ·rw [hap, more_snoc]
       by_cases e : x.f2.toNat = p
       ·rw [if_pos ((key p).2 e)]
        show s.m.getD p false = _
        rw [h.m]; simp [k2]
       ·rw [if_neg (fun e' => e ((key p).1 e'))]; exact h.m p
      ·rw [hap, text_snoc]
       by_cases e : x.f2.toNat = p
       ·rw [if_pos ((key p).2 e)]
        show s.t.getD p false = _
        rw [h.t]
        have hall : ∀ c, c ∈ kids (prK P) (p : Int) → c.1.f0 = 2 := fun c hc => by
         have hn : more (prK P) x.f2 = false := by
          cases hmm : more (prK P) x.f2 with
          | false => rfl
          | true => exact absurd (.inl hmm) kd
         unfold more at hn
         rw [List.any_eq_false] at hn
         have := hn c (by rw [(key p).2 e]; exact hc)
         simpa using this
        unfold textLast
        cases hl : (kids (prK P) (p : Int)).getLast? with
        | none => simp [k2]
        | some c =>
         have := hall c (List.mem_of_getLast? hl)
         simp [this, k2]
       ·rw [if_neg (fun e' => e ((key p).1 e'))]; exact h.t p
      ·rw [hap, atts_snoc]
       show (if p = x.f2.toNat then some (atts (prK P) x.f2 ++ [x.f1]) else s.a p).getD [] = _
       by_cases e : x.f2.toNat = p
       ·rw [if_pos e.symm, if_pos ⟨(key p).2 e, k2⟩, (key p).2 e]; rfl
       ·rw [if_neg (fun e' => e e'.symm), if_neg (fun e' => e ((key p).1 e'.1))]; exact h.a p
    ·have k3 : x.f0 = 3 := by omega
     rw [if_neg k2, if_pos k3, if_neg k2]
     rw [if_neg k2] at hrr
     by_cases kd : textLast (prK P) x.f2 = true
     ·rw [if_pos kd, if_pos kd]
     ·rw [if_neg kd, if_neg kd]
      rw [if_neg kd] at hrr
      simp only
      unfold openC
      rw [if_neg k1]
      refine ⟨rfl, hrr _ rfl, (List.length_set ..).trans h.ml, (List.length_set ..).trans h.tl, fun p => ?_, fun p => ?_, fun p => ?_⟩
      ·rw [hap, more_snoc, getD_set _ _ _ _ _ (by rw [h.ml]; exact ht)]
       by_cases e : x.f2.toNat = p
       ·rw [if_pos e, if_pos ((key p).2 e)]; simp [k3]
       ·rw [if_neg e, if_neg (fun e' => e ((key p).1 e'))]; exact h.m p
      ·rw [hap, text_snoc, getD_set _ _ _ _ _ (by rw [h.tl]; exact ht)]
       by_cases e : x.f2.toNat = p
       ·rw [if_pos e, if_pos ((key p).2 e)]; simp [k3]
       ·rw [if_neg e, if_neg (fun e' => e ((key p).1 e'))]; exact h.t p
      ·rw [hap, atts_snoc, if_neg (by show ¬ (x.f2 = _ ∧ x.f0 = 2); omega)]; exact h.a p
  ·rw [place_none hm, if_neg hm]
def okNod (nn : Nat) (x : Nod) : Bool := namedP nn x && validL x.f3.data.toList
theorem named_kinds {nn : Nat} {x : Nod} (h : namedP nn x = true) : x.f0 = 1 ∨ x.f0 = 2 ∨ x.f0 = 3 := by
 unfold namedP at h
 split at h
 ·rename_i e; exact .inr (.inr e)
 ·simp only [Bool.and_eq_true, Bool.or_eq_true, decide_eq_true_eq] at h
  rcases h.2 with h | h
  ·exact .inr (.inl h)
  ·exact .inl h.1
theorem nodes_run (n nn : Nat) : ∀ (R P : List Nod) (s : CS), CI n P s → P.length + R.length ≤ n → (nodesC nn R P.length s).isSome = (R.all (okNod nn) && (run (prK P) (prK R) s.op).isSome)
 | [], P, s, h, _ => rfl
 | x :: R, P, s, h, hn => by
  have hn : P.length + (R.length + 1) ≤ n := hn
  show (match stepC nn s P.length x with | none => none | some s' => nodesC nn R (P.length + 1) s').isSome = _
  rw [List.all_cons]
  unfold stepC
  by_cases c : namedP nn x = true ∧ validL x.f3.data.toList = true
  ·rw [if_pos c]
   have hs := h.step (nn := nn) (x := x) (by omega) (named_kinds c.1)
   have ho : okNod nn x = true := by unfold okNod; rw [c.1, c.2]; rfl
   rw [ho, Bool.true_and]
   show _ = (R.all (okNod nn) && (run (prK P) ((x, x.f1) :: prK R) s.op).isSome)
   rw [run]
   simp only
   cases hr : rightC s P.length x with
   | none =>
    rw [hr] at hs
    simp only at hs
    rw [hs]
    simp
   | some s' =>
    rw [hr] at hs
    obtain ⟨h1, h2⟩ := hs
    rw [h1]
    have ih := nodes_run n nn R (P ++ [x]) _ h2 (zz35)
    rw [List.length_append, List.length_singleton, prK_app] at ih
    exact ih
  ·rw [if_neg c]
   have ho : okNod nn x = false := by
    unfold okNod
    cases h1 : namedP nn x with
    | false => rfl
    | true => cases h2 : validL x.f3.data.toList with
     | false => rfl
     | true => exact absurd ⟨h1, h2⟩ c
   rw [ho]; simp
theorem nodes_rows (nn : Nat) (D : List Nod) : (nodesC nn D 0 (zeroC D.length)).isSome = (D.all (okNod nn) && (rows (prK D)).isSome) := by
 have := nodes_run D.length nn D [] _ (CI.zero D.length) (by simp)
 have e : (rows (prK D)).isSome = (run [] (prK D) []).isSome := by unfold rows; cases run [] (prK D) [] <;> rfl
 rw [e]; exact this
end Go.Proofs.YtlhhhlimjajnlaaGreat.P14
end
section
set_option linter.unusedVariables false
set_option linter.unusedSimpArgs false
namespace Go.Proofs.YtlhhhlimjajnlaaGreat.P14
open Go.RowKit Go.Proofs.YtlhhhlimjajnlaaGreat Go.Proofs.YtlhhhlimjajnlaaGreat.Q Go.Proofs.YtlhhhlimjajnlaaGreatW.PrintWords Go.Proofs.YtlhhhlimjajnlaaGreat.X Go.Proofs.YtlhhhlimjajnlaaGreat.Ck
section
variable {κ : Type} [DecidableEq κ]
theorem rows_adj : ∀ (n : Nat) (l : List (Nd × κ)) (op : List Int), l.length = n → rows l = some op → ∀ (j : Nat) (y z : Int), op[j]? = some y → op[j + 1]? = some z → ∀ (k : Nat) (c : Nd × κ), z < (k : Int) → l[k]? = some c → ¬ c.1.f2 = y
 | 0, l, op, hn, h, j, y, z, hy, hz, k, c, hk, hc => by
  have : l = [] := List.eq_nil_of_length_eq_zero hn
  rw [this] at hc; simp at hc
 | n + 1, l, op, hn, h, j, y, z, hy, hz, k, c, hk, hc => by
  rcases List.eq_nil_or_concat l with h' | ⟨pre, d, h'⟩
  ·rw [h'] at hn; exact absurd hn (by simp)
  rw [List.concat_eq_append] at h'
  subst h'
  obtain ⟨o, o', h1, h2, h3⟩ := rows_at pre [] d op h
  rw [h3] at h
  obtain rfl := Option.some.inj h
  have hpre : pre.length = n := by rw [List.length_append, List.length_singleton] at hn; omega
  obtain ⟨p1, p2⟩ := rows_path n pre o hpre h1
  have ih := rows_adj n pre o hpre h1
  have hkl : k < pre.length + 1 := by have := (List.getElem?_eq_some_iff.1 hc).1; rw [List.length_append, List.length_singleton] at this; exact this
  unfold right at h2
  by_cases hl : pre = []
  ·rw [if_pos hl] at h2
   split at h2
   ·obtain rfl := Option.some.inj h2
    simp at hz
   ·cases h2
  ·rw [if_neg hl] at h2
   by_cases hm : d.1.f2 ∈ o
   ·rw [if_pos hm] at h2
    simp only at h2
    have hlt := List.idxOf_lt_length_of_mem hm
    have inT : ∀ {j : Nat} {y z : Int}, (o.take (o.idxOf d.1.f2 + 1))[j]? = some y → (o.take (o.idxOf d.1.f2 + 1))[j + 1]? = some z → z < (k : Int) → ¬ c.1.f2 = y := by
     intro j y z hy hz hk
     rw [List.getElem?_take] at hy hz
     split at hz
     ·rename_i hj
      rw [if_pos (by omega)] at hy
      by_cases hkn : k < pre.length
      ·rw [List.getElem?_append_left hkn] at hc
       exact ih j y z hy hz k c hk hc
      ·rw [List.getElem?_append_right (by omega), show k - pre.length = 0 from by omega] at hc
       obtain rfl : d = c := Option.some.inj hc
       intro e
       have := p1.idx j y hy
       rw [← e] at this
       omega
     ·cases hz
    have oT : o' = o.take (o.idxOf d.1.f2 + 1) → ¬ c.1.f2 = y := fun e => by rw [e] at hy hz; exact inT hy hz hk
    split at h2
    ·split at h2
     ·cases h2
     ·obtain rfl := Option.some.inj h2
      by_cases hj : j + 1 < (o.take (o.idxOf d.1.f2 + 1)).length
      ·rw [List.getElem?_append_left (by omega)] at hy
       rw [List.getElem?_append_left hj] at hz
       exact inT hy hz hk
      ·have hjl := (List.getElem?_eq_some_iff.1 hz).1
       rw [List.length_append, List.length_singleton] at hjl
       rw [List.getElem?_append_right (by omega), show j + 1 - (o.take (o.idxOf d.1.f2 + 1)).length = 0 from by omega] at hz
       have hz : (pre.length : Int) = z := Option.some.inj hz
       omega
    ·split at h2
     ·split at h2
      ·cases h2
      ·exact oT (Option.some.inj h2).symm
     ·split at h2
      ·cases h2
      ·exact oT (Option.some.inj h2).symm
   ·rw [if_neg hm] at h2; cases h2
end
theorem range_cut {f : Nat → List UInt8} {m : Nat} : ∀ {n : Nat}, m ≤ n → (∀ k, m ≤ k → k < n → f k = []) → (List.range n).flatMap f = (List.range m).flatMap f
 | 0, hm, _ => by rw [show m = 0 from by omega]
 | n + 1, hm, h => by
  by_cases e : m = n + 1
  ·rw [e]
  ·rw [List.range_succ, List.flatMap_append, range_cut (n := n) (by omega) (fun k h1 h2 => h k h1 (by omega))]
   simp [h n (by omega) (by omega)]
theorem range_same {f g : Nat → List UInt8} : ∀ {n : Nat}, (∀ k, k < n → f k = g k) → (List.range n).flatMap f = (List.range n).flatMap g
 | 0, _ => rfl
 | n + 1, h => by
  rw [List.range_succ, List.flatMap_append, List.flatMap_append, range_same (n := n) (fun k hk => h k (by omega))]
  simp [h n (by omega)]
theorem range_one (f : Nat → List UInt8) (n : Nat) : (List.range (n + 1)).flatMap f = (List.range n).flatMap f ++ f n := by
 rw [List.range_succ, List.flatMap_append]; simp
def attW (N : List ByteArray) (x : Nod) : List UInt8 := [32] ++ (N.getD x.f1.toNat ⟨#[]⟩).data.toList ++ [61, 34] ++ escL x.f3.data.toList ++ [34]
def attK (N : List ByteArray) (D : List Nod) (i : Nat) (k : Nat) : List UInt8 := if (D.getD k nz).f2 = (i : Int) ∧ (D.getD k nz).f0 = 2 then attW N (D.getD k nz) else []
def bodK (g : Nat → List UInt8) (D : List Nod) (i : Nat) (k : Nat) : List UInt8 := if (D.getD k nz).f2 = (i : Int) ∧ ¬ (D.getD k nz).f0 = 2 then (if (D.getD k nz).f0 = 3 then escL (D.getD k nz).f3.data.toList else g k) else []
def headE (N : List ByteArray) (D : List Nod) (i : Nat) : List UInt8 := [60] ++ nameW N D (i : Int) ++ (List.range D.length).flatMap (attK N D i)
def endE (N : List ByteArray) (D : List Nod) (i : Nat) : List UInt8 := [60, 47] ++ nameW N D (i : Int) ++ [62]
def el : Nat → List ByteArray → List Nod → Nat → List UInt8
 | 0, _, _, _ => []
 | f + 1, N, D, i => headE N D i ++ [62] ++ (List.range D.length).flatMap (bodK (el f N D) D i) ++ endE N D i
def Low (D : List Nod) : Prop := ∀ k, k < D.length → (D.getD k nz).f2 < (k : Int)
theorem el_fuel {N : List ByteArray} {D : List Nod} (h : Low D) : ∀ (f g i : Nat), i < D.length → D.length ≤ i + f → D.length ≤ i + g → el f N D i = el g N D i
 | 0, g, i, h1, h2, h3 => by omega
 | f + 1, 0, i, h1, h2, h3 => by omega
 | f + 1, g + 1, i, h1, h2, h3 => by
  unfold el
  rw [range_same (f := bodK (el f N D) D i) (g := bodK (el g N D) D i)]
  intro k hk
  unfold bodK
  split
  ·rename_i hc
   have := h k hk
   rw [el_fuel h f g k hk (by omega) (by omega)]
  ·rfl
abbrev elP (N : List ByteArray) (D : List Nod) : Nat → List UInt8 := el D.length N D
theorem elP_eq {N : List ByteArray} {D : List Nod} (h : Low D) {i : Nat} (hi : i < D.length) : elP N D i = headE N D i ++ [62] ++ (List.range D.length).flatMap (bodK (elP N D) D i) ++ endE N D i := by
 rw [show elP N D i = el (D.length + 1) N D i from el_fuel h _ _ i hi (by omega) (by omega)]; rfl
def opn (N : List ByteArray) (P : List Nod) (z lim : Nat) : List UInt8 := headE N P z ++ [62] ++ (List.range lim).flatMap (bodK (elP N P) P z)
def Gw (N : List ByteArray) (P : List Nod) : List Int → List UInt8
 | [] => []
 | z :: r => opn N P z.toNat (r.headD (P.length : Int)).toNat ++ Gw N P r
theorem headD_mid {α : Type} (pre : List α) (y : α) (t : List α) (d : α) : (pre ++ y :: t).headD d = (pre ++ [y]).headD d := by cases pre <;> rfl
structure Rw (P : List Nod) (op : List Int) : Prop where
 r : rows (prK P) = some op
theorem Rw.path {P : List Nod} {op : List Int} (h : Rw P op) : Path (prK P) op := (rows_path _ _ _ rfl h.r).1
theorem prK_get (P : List Nod) (k : Nat) (hk : k < P.length) : (prK P)[k]? = some (P.getD k nz, (P.getD k nz).f1) := by
 unfold prK
 rw [List.getElem?_map, List.getD_eq_getElem?_getD, List.getElem?_eq_getElem hk]; rfl
theorem Rw.low {P : List Nod} {op : List Int} (h : Rw P op) : Low P := by
 intro k hk
 obtain ⟨o, o', -, -, r1, r2⟩ := rows_low (prK P) op h.r k _ (prK_get P k hk)
 rcases Nat.eq_zero_or_pos k with h0 | h0
 ·have := (r1 h0).2
  simp only at this
  omega
 ·exact (r2 h0).2.1
theorem Rw.at {P : List Nod} {op : List Int} (h : Rw P op) {j : Nat} {z : Int} (hz : op[j]? = some z) : 0 ≤ z ∧ z.toNat < P.length ∧ (P.getD z.toNat nz).f0 = 1 ∧ (P.getD z.toNat nz).f2 = (if j = 0 then -1 else op.getD (j - 1) 0) := by
 obtain ⟨z1, z2, ⟨c, z3, z4, z5⟩, -, -⟩ := h.path j z hz
 rw [prK_len] at z2
 have hlt : z.toNat < P.length := by omega
 rw [prK_get P z.toNat hlt] at z3
 obtain rfl := Option.some.inj z3
 exact ⟨z1, hlt, z4, z5⟩
theorem opn_close {N : List ByteArray} {P : List Nod} {op : List Int} (h : Rw P op) {j : Nat} {y z : Int} (hy : op[j]? = some y) (hz : op[j + 1]? = some z) : opn N P y.toNat z.toNat ++ opn N P z.toNat P.length ++ endE N P z.toNat = opn N P y.toNat P.length := by
 obtain ⟨y1, y2, -, -⟩ := h.at hy
 obtain ⟨z1, z2, z3, z4⟩ := h.at hz
 have hgy : op.getD j 0 = y := by rw [List.getD_eq_getElem?_getD, hy]; rfl
 rw [if_neg (by omega), Nat.add_sub_cancel, hgy] at z4
 have hcut : (List.range P.length).flatMap (bodK (elP N P) P y.toNat) = (List.range (z.toNat + 1)).flatMap (bodK (elP N P) P y.toNat) := by
  refine range_cut (by omega) fun k h1 h2 => ?_
  unfold bodK
  rw [if_neg]
  rintro ⟨e, -⟩
  exact rows_adj _ _ _ rfl h.r j y z hy hz k _ (by omega) (prK_get P k h2) (by show (P.getD k nz).f2 = y; omega)
 have hb : bodK (elP N P) P y.toNat z.toNat = elP N P z.toNat := by
  unfold bodK
  rw [if_pos ⟨by omega, by omega⟩, if_neg (by omega)]
 unfold opn
 rw [hcut, range_one, hb, elP_eq h.low z2]
 simp only [List.append_assoc]
theorem Gw_pop {N : List ByteArray} {P : List Nod} {op : List Int} (h : Rw P op) {y z : Int} : ∀ (pre : List Int) (a : Nat), (∀ (j : Nat) (v : Int), (pre ++ [y, z])[j]? = some v → op[a + j]? = some v) → Gw N P (pre ++ [y, z]) ++ endE N P z.toNat = Gw N P (pre ++ [y])
 | [], a, e => by
  have := opn_close (N := N) h (j := a) (y := y) (z := z) (e 0 y rfl) (e 1 z rfl)
  show opn N P y.toNat z.toNat ++ (opn N P z.toNat P.length ++ []) ++ endE N P z.toNat = opn N P y.toNat P.length ++ []
  rw [List.append_nil, List.append_nil]; exact this
 | b :: pre, a, e => by
  have ih := Gw_pop (N := N) h (y := y) (z := z) pre (a + 1) (fun j v hv => by have := e (j + 1) v hv; rw [show a + 1 + j = a + (j + 1) from by omega]; exact this)
  show opn N P b.toNat ((pre ++ [y, z]).headD (P.length : Int)).toNat ++ Gw N P (pre ++ [y, z]) ++ endE N P z.toNat = opn N P b.toNat ((pre ++ [y]).headD (P.length : Int)).toNat ++ Gw N P (pre ++ [y])
  rw [headD_mid pre y [z], List.append_assoc, ih]
structure Add (P : List Nod) (op o : List Int) (x : Nod) : Prop where
 rw : Rw P op
 cut : o = op.take (op.idxOf x.f2 + 1)
 mem : x.f2 ∈ op
theorem Add.last {P : List Nod} {op o : List Int} {x : Nod} (h : Add P op o x) : o = op.take (op.idxOf x.f2) ++ [x.f2] := by
 have hlt := List.idxOf_lt_length_of_mem h.mem
 rw [h.cut, List.take_add_one, List.getElem?_eq_getElem hlt, List.getElem_idxOf]; rfl
theorem Add.len {P : List Nod} {op o : List Int} {x : Nod} (h : Add P op o x) : o.length = op.idxOf x.f2 + 1 := by
 have hlt := List.idxOf_lt_length_of_mem h.mem
 rw [h.cut, List.length_take]; omega
theorem Add.get {P : List Nod} {op o : List Int} {x : Nod} (h : Add P op o x) {j : Nat} {z : Int} (hz : o[j]? = some z) : op[j]? = some z := by
 rw [h.cut, List.getElem?_take] at hz
 split at hz
 ·exact hz
 ·cases hz
theorem getD_old {P : List Nod} {x : Nod} {k : Nat} (hk : k < P.length) : (P ++ [x]).getD k nz = P.getD k nz := by
 rw [List.getD_eq_getElem?_getD, List.getD_eq_getElem?_getD, List.getElem?_append_left hk]
theorem getD_new {P : List Nod} {x : Nod} : (P ++ [x]).getD P.length nz = x := by
 rw [List.getD_eq_getElem?_getD, List.getElem?_append_right (Nat.le_refl _), Nat.sub_self]; rfl
theorem nameW_old {N : List ByteArray} {P : List Nod} {R : List Nod} {z : Int} (hz : z.toNat < P.length) : nameW N (P ++ R) z = nameW N P z := by
 have e : ∀ d, (P ++ R).getD z.toNat d = P.getD z.toNat d := fun d => by rw [List.getD_eq_getElem?_getD, List.getD_eq_getElem?_getD, List.getElem?_append_left hz]
 unfold nameW
 rw [e]
theorem attK_old {N : List ByteArray} {P : List Nod} {x : Nod} {i k : Nat} (hk : k < P.length) : attK N (P ++ [x]) i k = attK N P i k := by
 unfold attK; rw [getD_old hk]
theorem Add.kid {P : List Nod} {op o : List Int} {x : Nod} (h : Add P op o x) {k c : Nat} (hk : (k : Int) ∈ o) (hc : (P.getD k nz).f2 = (c : Int)) : ∃ j, o[j]? = some (c : Int) ∧ o[j + 1]? = some (k : Int) := by
 obtain ⟨j, hj⟩ := List.mem_iff_getElem?.1 hk
 obtain ⟨q1, q2, q3, q4⟩ := h.rw.at (h.get hj)
 rw [Int.toNat_natCast, hc] at q4
 by_cases e : j = 0
 ·rw [if_pos e] at q4; omega
 ·rw [if_neg e] at q4
  have hl := (List.getElem?_eq_some_iff.1 hj).1
  have hg : o[j - 1]? = some o[j - 1] := List.getElem?_eq_getElem (by omega)
  rw [List.getD_eq_getElem?_getD, h.get hg] at q4
  have q4 : (c : Int) = o[j - 1] := q4
  exact ⟨j - 1, by rw [hg, q4], by rw [show j - 1 + 1 = j from by omega]; exact hj⟩
theorem Add.headE {N : List ByteArray} {P : List Nod} {op o : List Int} {x : Nod} (h : Add P op o x) {c : Nat} (hc : c < P.length) (hx : ¬ (x.f2 = (c : Int) ∧ x.f0 = 2)) : headE N (P ++ [x]) c = P14.headE N P c := by
 unfold P14.headE
 rw [nameW_old (by rw [Int.toNat_natCast]; exact hc), List.length_append, List.length_singleton, range_one, range_same (f := attK N (P ++ [x]) c) (g := attK N P c) (fun k hk => attK_old hk)]
 have : attK N (P ++ [x]) c P.length = [] := by unfold attK; rw [getD_new, if_neg hx]
 rw [this, List.append_nil]
theorem Add.el {N : List ByteArray} {P : List Nod} {op o : List Int} {x : Nod} (h : Add P op o x) : ∀ (f c : Nat), c < P.length → ¬ (c : Int) ∈ o → el f N (P ++ [x]) c = P14.el f N P c
 | 0, c, _, _ => rfl
 | f + 1, c, hc, ho => by
  have hx : ¬ x.f2 = (c : Int) := fun e => ho (by rw [← e, h.last]; simp)
  unfold P14.el
  rw [h.headE hc (fun e => hx e.1), show endE N (P ++ [x]) c = endE N P c from by unfold endE; rw [nameW_old (by rw [Int.toNat_natCast]; exact hc)]]
  rw [List.length_append, List.length_singleton, range_one, show bodK (P14.el f N (P ++ [x])) (P ++ [x]) c P.length = [] from by unfold bodK; rw [getD_new, if_neg (fun e => hx e.1)], List.append_nil]
  rw [range_same (f := bodK (P14.el f N (P ++ [x])) (P ++ [x]) c) (g := bodK (P14.el f N P) P c)]
  intro k hk
  unfold bodK
  rw [getD_old hk]
  split
  ·rename_i e
   rw [h.el f k hk]
   intro hm
   obtain ⟨j, hj, -⟩ := h.kid hm e.1
   exact ho (List.mem_of_getElem? hj)
  ·rfl
theorem Add.elP {N : List ByteArray} {P : List Nod} {op o : List Int} {x : Nod} (h : Add P op o x) (hl : Low (P ++ [x])) {c : Nat} (hc : c < P.length) (ho : ¬ (c : Int) ∈ o) : elP N (P ++ [x]) c = P14.elP N P c := by
 have hL : (P ++ [x]).length = P.length + 1 := by simp
 show P14.el (P ++ [x]).length N (P ++ [x]) c = P14.el P.length N P c
 rw [hL, h.el _ c hc ho]
 exact el_fuel h.rw.low _ _ c hc (by omega) (by omega)
theorem Add.opn {N : List ByteArray} {P : List Nod} {op o : List Int} {x : Nod} (h : Add P op o x) (hl : Low (P ++ [x])) {c lim : Nat} (hc : c < P.length) (hx : ¬ (x.f2 = (c : Int) ∧ x.f0 = 2)) (hlim : lim ≤ P.length) (hk : ∀ k, k < lim → (P.getD k nz).f2 = (c : Int) → ¬ (k : Int) ∈ o) : opn N (P ++ [x]) c lim = P14.opn N P c lim := by
 unfold P14.opn
 rw [h.headE hc hx, range_same (f := bodK (P14.elP N (P ++ [x])) (P ++ [x]) c) (g := bodK (P14.elP N P) P c)]
 intro k hkl
 unfold bodK
 rw [getD_old (by omega)]
 split
 ·rename_i e
  rw [h.elP hl (by omega) (hk k hkl e.1)]
 ·rfl
theorem Add.path {P : List Nod} {op o : List Int} {x : Nod} (h : Add P op o x) : Path (prK P) o := by rw [h.cut]; exact h.rw.path.take _
theorem Add.inner {P : List Nod} {op o : List Int} {x : Nod} (h : Add P op o x) {j : Nat} {b : Int} (hb : o[j]? = some b) {lim : Nat} (hlim : ∀ z, o[j + 1]? = some z → (lim : Int) ≤ z) : ∀ k, k < lim → (P.getD k nz).f2 = ((b.toNat : Nat) : Int) → ¬ (k : Int) ∈ o := by
 intro k hk he hm
 obtain ⟨b1, -, -, -⟩ := h.rw.at (h.get hb)
 rw [show ((b.toNat : Nat) : Int) = b from by omega] at he
 have he' : (P.getD k nz).f2 = ((b.toNat : Nat) : Int) := by omega
 obtain ⟨i, h1, h2⟩ := h.kid hm he'
 rw [show ((b.toNat : Nat) : Int) = b from by omega] at h1
 have e1 := h.path.idx j b hb
 have e2 := h.path.idx i b h1
 have : (lim : Int) ≤ (k : Int) := hlim k (by rw [show j + 1 = i + 1 from by omega]; exact h2)
 omega
def Gq (N : List ByteArray) (P : List Nod) (p : Int) : List Int → List UInt8
 | [] => []
 | b :: r => opn N P b.toNat ((r ++ [p]).headD 0).toNat ++ Gq N P p r
theorem headD_end {α : Type} (r : List α) (p : α) (d e : α) : (r ++ [p]).headD d = (r ++ [p]).headD e := by cases r <;> rfl
theorem Gw_q {N : List ByteArray} {P : List Nod} {p : Int} (t : List Int) : ∀ r : List Int, Gw N P (r ++ p :: t) = Gq N P p r ++ Gw N P (p :: t)
 | [] => rfl
 | b :: r => by
  show opn N P b.toNat ((r ++ p :: t).headD (P.length : Int)).toNat ++ Gw N P (r ++ p :: t) = opn N P b.toNat ((r ++ [p]).headD 0).toNat ++ Gq N P p r ++ Gw N P (p :: t)
  rw [Gw_q t r, headD_mid r p t, headD_end r p _ 0, List.append_assoc]
theorem Add.Gq {N : List ByteArray} {P : List Nod} {op o : List Int} {x : Nod} (h : Add P op o x) (hl : Low (P ++ [x])) : ∀ (r a : List Int), o = a ++ (r ++ [x.f2]) → P14.Gq N (P ++ [x]) x.f2 r = P14.Gq N P x.f2 r
 | [], a, _ => rfl
 | b :: r, a, ho => by
  have ih := h.Gq hl (N := N) r (a ++ [b]) (by rw [ho]; simp)
  have hb : o[a.length]? = some b := by rw [ho, List.getElem?_append_right (Nat.le_refl _)]; simp
  obtain ⟨z, hz, hzl⟩ : ∃ z, o[a.length + 1]? = some z ∧ ∀ d, (r ++ [x.f2]).headD d = z := by
   rw [ho, List.getElem?_append_right (by omega)]
   cases r with
   | nil => exact ⟨x.f2, by simp, fun d => rfl⟩
   | cons c r => exact ⟨c, by simp, fun d => rfl⟩
  obtain ⟨b1, b2, -, -⟩ := h.rw.at (h.get hb)
  obtain ⟨z1, z2, -, -⟩ := h.rw.at (h.get hz)
  have hne : ¬ x.f2 = b := by
   intro e
   have e1 := h.path.idx _ b hb
   have e2 := h.path.idx (o.length - 1) x.f2 (by rw [h.last, List.length_append, List.length_singleton, List.getElem?_append_right (by omega)]; simp)
   rw [e] at e2
   have := (List.getElem?_eq_some_iff.1 hz).1
   omega
  show P14.opn N (P ++ [x]) b.toNat ((r ++ [x.f2]).headD 0).toNat ++ P14.Gq N (P ++ [x]) x.f2 r = P14.opn N P b.toNat ((r ++ [x.f2]).headD 0).toNat ++ P14.Gq N P x.f2 r
  rw [ih, hzl, h.opn hl b2 (fun e => hne (by omega)) (by omega) (h.inner hb (fun z' hz' => by rw [hz] at hz'; obtain rfl := Option.some.inj hz'; omega))]
end Go.Proofs.YtlhhhlimjajnlaaGreat.P14
end
section
set_option linter.unusedVariables false
set_option linter.unusedSimpArgs false
namespace Go.Proofs.YtlhhhlimjajnlaaGreat.P14
open Go.RowKit Go.Proofs.YtlhhhlimjajnlaaGreat Go.Proofs.YtlhhhlimjajnlaaGreat.Q Go.Proofs.YtlhhhlimjajnlaaGreatW.PrintWords Go.Proofs.YtlhhhlimjajnlaaGreat.X Go.Proofs.YtlhhhlimjajnlaaGreat.Ck
theorem ready_false {s : WS} (h : s.bg = false) : (readyW s).out = s.out := by unfold readyW; rw [if_neg (by rw [h]; decide)]
theorem ready_true {s : WS} (h : s.bg = true) : (readyW s).out = s.out ++ [62] := by unfold readyW; rw [if_pos h]
section
variable {N : List ByteArray} {P R : List Nod} {op : List Int}
theorem endE_at (h : Rw P op) {j : Nat} {z : Int} (hz : op[j]? = some z) : [60, 47] ++ nameW N (P ++ R) z ++ [62] = endE N P z.toNat := by
 obtain ⟨z1, z2, -, -⟩ := h.at hz
 unfold endE
 rw [nameW_old z2, show ((z.toNat : Nat) : Int) = z from by omega]
theorem take_last {m : Nat} (hm : m < op.length) : op.take (m + 1) = op.take m ++ [op[m]] := by rw [List.take_add_one, List.getElem?_eq_getElem hm]; rfl
theorem pop_two (h : Rw P op) {s : WS} {m : Nat} (hm : m + 1 < op.length) (hs : s.op = op.take (m + 2)) (ho : (readyW s).out = Gw N P s.op) : (popW N (P ++ R) s).op = op.take (m + 1) ∧ (popW N (P ++ R) s).out = Gw N P (op.take (m + 1)) ∧ (popW N (P ++ R) s).bg = false := by
 have e2 : op.take (m + 2) = op.take m ++ [op[m], op[m + 1]] := by rw [show m + 2 = (m + 1) + 1 from rfl, take_last hm, take_last (by omega), List.append_assoc]; rfl
 have e1 : op.take (m + 1) = op.take m ++ [op[m]] := take_last (by omega)
 refine ⟨?_, ?_, rfl⟩
 ·show s.op.dropLast = _
  rw [hs, e2, e1, show op.take m ++ [op[m], op[m + 1]] = (op.take m ++ [op[m]]) ++ [op[m + 1]] from by rw [List.append_assoc]; rfl, List.dropLast_concat]
 ·show (readyW s).out ++ ([60, 47] ++ nameW N (P ++ R) (s.op.getLastD 0) ++ [62]) = _
  have hl : s.op.getLastD 0 = op[m + 1] := by rw [hs, show m + 2 = (m + 1) + 1 from rfl, take_last hm, List.getLastD_concat]
  rw [hl, endE_at h (List.getElem?_eq_getElem hm), ho, hs, e2, e1]
  refine Gw_pop h (op.take m) 0 fun j v hv => ?_
  rw [← e2, List.getElem?_take] at hv
  split at hv
  ·rw [Nat.zero_add]; exact hv
  ·cases hv
theorem close_go (h : Rw P op) {p : Int} : ∀ (k m : Nat) (s : WS), m ≤ op.length → s.op = op.take m → p ∈ s.op → m ≤ k → (readyW s).out = Gw N P s.op →
 (closeW N (P ++ R) p k s).op = op.take (op.idxOf p + 1) ∧ (readyW (closeW N (P ++ R) p k s)).out = Gw N P (op.take (op.idxOf p + 1)) ∧ ((closeW N (P ++ R) p k s = s ∧ m = op.idxOf p + 1) ∨ ((closeW N (P ++ R) p k s).bg = false ∧ op.idxOf p + 1 < m))
 | 0, m, s, hm, hs, hp, hk, ho => by
  obtain rfl : m = 0 := by omega
  rw [hs] at hp; simp at hp
 | k + 1, m, s, hm, hs, hp, hk, ho => by
  obtain ⟨j, hj⟩ := List.mem_iff_getElem?.1 hp
  rw [hs, List.getElem?_take] at hj
  split at hj
  case isFalse => cases hj
  rename_i hjm
  have hix := h.path.idx j p hj
  have hne : ¬ s.op = [] := fun e => by rw [e] at hp; cases hp
  obtain ⟨q, rfl⟩ : ∃ q, m = q + 1 := ⟨m - 1, by omega⟩
  have hl : s.op.getLastD 0 = op[q] := by rw [hs, take_last (by omega), List.getLastD_concat]
  unfold closeW
  by_cases c : op[q] = p
  ·rw [if_pos (.inr (by rw [hl, c]))]
   have := h.path.idx q p (by rw [List.getElem?_eq_getElem (by omega), c])
   have e : op.idxOf p + 1 = q + 1 := by omega
   rw [e, ← hs]
   exact ⟨rfl, ho, .inl ⟨rfl, rfl⟩⟩
  ·rw [if_neg (fun e => e.elim hne fun e => c (by rw [← hl]; exact e))]
   have hjq : j < q := by
    rcases Nat.lt_or_ge j q with e | e
    ·exact e
    ·exfalso
     obtain rfl : j = q := by omega
     rw [List.getElem?_eq_getElem (by omega)] at hj
     exact c (Option.some.inj hj)
   obtain ⟨r, rfl⟩ : ∃ r, q = r + 1 := ⟨q - 1, by omega⟩
   obtain ⟨q1, q2, q3⟩ := pop_two (R := R) h (by omega) hs ho
   obtain ⟨i1, i2, i3⟩ := close_go h k (r + 1) (popW N (P ++ R) s) (by omega) q1 (by rw [q1]; exact List.mem_of_getElem? (by rw [List.getElem?_take_of_lt (by omega)]; exact hj : (op.take (r + 1))[j]? = some p)) (by omega) (by rw [ready_false q3, q2, q1])
   refine ⟨i1, i2, .inr ⟨?_, by omega⟩⟩
   rcases i3 with ⟨e, -⟩ | ⟨e, -⟩
   ·rw [e]; exact q3
   ·exact e
theorem close_all (h : Rw P op) : ∀ (k m : Nat) (s : WS), m < op.length → s.op = op.take (m + 1) → m < k → (readyW s).out = Gw N P s.op → (closeW N (P ++ R) (-1) k s).out = elP N P 0
 | 0, m, s, hm, hs, hk, ho => by omega
 | k + 1, m, s, hm, hs, hk, ho => by
  have hl : s.op.getLastD 0 = op[m] := by rw [hs, take_last hm, List.getLastD_concat]
  have hz := h.at (List.getElem?_eq_getElem hm)
  have hne : ¬ s.op = [] := fun e => by
   have := congrArg List.length e
   rw [hs, List.length_take, List.length_nil] at this; omega
  unfold closeW
  rw [if_neg (fun e => e.elim hne fun e => by rw [hl] at e; omega)]
  cases m with
  | zero =>
   have h0 : op[0] = 0 := (h.path 0 _ (List.getElem?_eq_getElem hm)).2.2.2.1 rfl
   have e1 : op.take 1 = [0] := by rw [take_last hm, h0]; rfl
   have hop : (popW N (P ++ R) s).op = [] := by show s.op.dropLast = []; rw [hs, e1]; rfl
   have hcl : closeW N (P ++ R) (-1) k (popW N (P ++ R) s) = popW N (P ++ R) s := by
    cases k with
    | zero => rfl
    | succ k => unfold closeW; rw [if_pos (.inl hop)]
   rw [hcl]
   show (readyW s).out ++ ([60, 47] ++ nameW N (P ++ R) (s.op.getLastD 0) ++ [62]) = _
   rw [hl, endE_at h (List.getElem?_eq_getElem hm), ho, hs, e1, h0, elP_eq h.low (by have := hz.2.1; rw [h0] at this; exact this)]
   show opn N P 0 P.length ++ [] ++ endE N P 0 = _
   rw [List.append_nil]; rfl
  | succ m =>
   obtain ⟨q1, q2, q3⟩ := pop_two (R := R) h hm hs ho
   exact close_all h k m _ (by omega) q1 (by omega) (by rw [ready_false q3, q2, q1])
end
structure WI (N : List ByteArray) (P : List Nod) (s : WS) : Prop where
 r : Rw P s.op
 out : (readyW s).out = Gw N P s.op
 bg : ∀ z, s.op.getLast? = some z → s.bg = !(more (prK P) z)
theorem WI.zero (N : List ByteArray) : WI N [] ⟨[], [], false⟩ := ⟨⟨rfl⟩, rfl, fun z hz => by cases hz⟩
theorem more_of {P : List Nod} {k : Nat} (hk : k < P.length) {p : Int} (h2 : (P.getD k nz).f2 = p) (h0 : ¬ (P.getD k nz).f0 = 2) : more (prK P) p = true := by
 unfold more
 rw [List.any_eq_true]
 refine ⟨(P.getD k nz, (P.getD k nz).f1), ?_, by simpa using h0⟩
 unfold kids
 rw [List.mem_filter]
 exact ⟨List.mem_of_getElem? (prK_get P k hk), by simpa using h2⟩
theorem more_not {P : List Nod} {p : Int} (h : more (prK P) p = false) {k : Nat} (hk : k < P.length) (h2 : (P.getD k nz).f2 = p) : (P.getD k nz).f0 = 2 := by
 by_cases c : (P.getD k nz).f0 = 2
 ·exact c
 ·rw [more_of hk h2 c] at h; cases h
theorem snoc_len {P : List Nod} {x : Nod} : (P ++ [x]).length = P.length + 1 := by simp
theorem body_none {f : Nat → List UInt8} : ∀ {n : Nat}, (∀ k, k < n → f k = []) → (List.range n).flatMap f = []
 | 0, _ => rfl
 | n + 1, h => by rw [range_one, body_none (n := n) (fun k hk => h k (by omega)), h n (by omega)]; rfl
theorem WI.step {N : List ByteArray} {P R : List Nod} {x : Nod} {s : WS} {o : List Int} (h : WI N P s) (hx : x.f0 = 1 ∨ x.f0 = 2 ∨ x.f0 = 3) (hr : right (prK P) s.op x x.f1 = some o) : WI N (P ++ [x]) (nodeW N (P ++ x :: R) P.length x s) := by
 have hap : prK (P ++ [x]) = prK P ++ [(x, x.f1)] := prK_app _ _
 have hro : Rw (P ++ [x]) o := ⟨by rw [hap, rows_snoc _ _ _ h.r.r]; exact hr⟩
 have hl : Low (P ++ [x]) := hro.low
 unfold nodeW
 simp only
 have hr' := hr
 unfold right at hr
 by_cases hP : prK P = []
 ·have hP0 : P = [] := prK_nil.1 hP
  subst hP0
  rw [if_pos hP] at hr
  by_cases c : x.f0 = 1 ∧ x.f2 = -1
  case neg => rw [if_neg c] at hr; cases hr
  rw [if_pos c] at hr
  obtain rfl := Option.some.inj hr
  have hop : s.op = [] := (rows_path _ _ _ rfl h.r.r).2.1 rfl
  have hcl : closeW N ([] ++ x :: R) x.f2 s.op.length s = s := by rw [hop]; rfl
  rw [hcl, if_neg (by omega), if_neg (by omega)]
  have hout : (readyW s).out = [] := by rw [h.out, hop]; rfl
  have h2 : ∀ k : Nat, k < ([] ++ [x] : List Nod).length → ¬ (([] ++ [x] : List Nod).getD k nz).f2 = ((0 : Nat) : Int) := by
   intro k hk
   obtain rfl : k = 0 := by simp at hk; exact hk
   show ¬ x.f2 = _
   omega
  refine ⟨?_, ?_, ?_⟩
  ·show Rw ([] ++ [x]) ((readyW s).op ++ [((List.length ([] : List Nod) : Nat) : Int)])
   rw [show (readyW s).op = [] from hop]; exact hro
  ·rw [ready_true rfl]
   show (readyW s).out ++ ([60] ++ (N.getD x.f1.toNat ⟨#[]⟩).data.toList) ++ [62] = Gw N ([] ++ [x]) ((readyW s).op ++ [((List.length ([] : List Nod) : Nat) : Int)])
   rw [hout, show (readyW s).op = [] from hop]
   show _ = opn N ([] ++ [x]) 0 ([] ++ [x] : List Nod).length ++ []
   unfold opn headE
   rw [body_none (fun k hk => by unfold attK; rw [if_neg (fun e => h2 k hk e.1)]), body_none (fun k hk => by unfold bodK; rw [if_neg (fun e => h2 k hk e.1)])]
   simp [nameW]
  ·intro z hz
   have hz : ((readyW s).op ++ [((List.length ([] : List Nod) : Nat) : Int)]).getLast? = some z := hz
   rw [List.getLast?_concat] at hz
   obtain rfl := Option.some.inj hz
   show true = !(more (prK ([] ++ [x])) 0)
   have : more (prK ([] ++ [x])) 0 = false := by
    rw [hap, more_snoc, if_neg (by show ¬ x.f2 = 0; omega)]; rfl
   rw [this]; rfl
 ·rw [if_neg hP] at hr
  by_cases hm : x.f2 ∈ s.op
  case neg => rw [if_neg hm] at hr; cases hr
  rw [if_pos hm] at hr
  simp only at hr
  obtain ⟨c1, c2, c3⟩ := close_go (R := x :: R) h.r s.op.length s.op.length s (Nat.le_refl _) (List.take_length).symm hm (Nat.le_refl _) h.out
  have hA : Add P s.op (s.op.take (s.op.idxOf x.f2 + 1)) x := ⟨h.r, rfl, hm⟩
  obtain ⟨t, ht⟩ : ∃ t, s.op.take (s.op.idxOf x.f2) = t := ⟨_, rfl⟩
  have hlast := hA.last
  rw [ht] at hlast
  have hlt := List.idxOf_lt_length_of_mem hm
  have hgt : s.op[s.op.idxOf x.f2]? = some x.f2 := by rw [List.getElem?_eq_getElem hlt, List.getElem_idxOf]
  obtain ⟨p1, p2, p3, p4⟩ := h.r.at hgt
  have hpc : ((x.f2.toNat : Nat) : Int) = x.f2 := by omega
  have hGq := hA.Gq (N := N) hl t [] hlast
  have hkid : ∀ k, k < P.length → (P.getD k nz).f2 = ((x.f2.toNat : Nat) : Int) → ¬ (k : Int) ∈ s.op.take (s.op.idxOf x.f2 + 1) :=
   hA.inner (j := s.op.idxOf x.f2) (b := x.f2) (by rw [List.getElem?_take_of_lt (by omega)]; exact hgt) (fun z hz => by
    have := (List.getElem?_eq_some_iff.1 hz).1
    rw [hA.len] at this; omega)
  generalize closeW N (P ++ x :: R) x.f2 s.op.length s = c at *
  rw [hlast] at c1 c2
  have hro' := hro
  by_cases k2 : x.f0 = 2
  ·rw [if_pos k2]
   rw [if_neg (by omega), if_pos k2] at hr
   split at hr
   ·cases hr
   rename_i hmt
   obtain rfl := Option.some.inj hr
   rw [hlast] at hro
   have hmore : more (prK P) x.f2 = false := by
    cases e : more (prK P) x.f2 with
    | false => rfl
    | true => exact absurd (.inl e) hmt
   obtain ⟨e, em⟩ : c = s ∧ s.op.length = s.op.idxOf x.f2 + 1 := by
    rcases c3 with c3 | ⟨-, c3⟩
    ·exact c3
    ·exfalso
     have hz : s.op[s.op.idxOf x.f2 + 1]? = some s.op[s.op.idxOf x.f2 + 1] := List.getElem?_eq_getElem c3
     obtain ⟨z1, z2, z3, z4⟩ := h.r.at hz
     rw [if_neg (by omega), Nat.add_sub_cancel, show s.op.getD (s.op.idxOf x.f2) 0 = x.f2 from by rw [List.getD_eq_getElem?_getD, hgt]; rfl] at z4
     have := more_not hmore z2 z4
     omega
   subst e
   have hbg : c.bg = true := by
    have := h.bg x.f2 (by rw [c1]; exact List.getLast?_concat ..)
    rw [this, hmore]; rfl
   rw [ready_true hbg, Gw_q, show P14.Gw N P [x.f2] = headE N P x.f2.toNat ++ [62] from by
    show opn N P x.f2.toNat P.length ++ [] = _
    unfold opn
    rw [body_none (fun k hk => by unfold bodK; rw [if_neg (fun e => e.2 (more_not hmore hk (by rw [e.1, hpc])))]), List.append_nil, List.append_nil], ← List.append_assoc] at c2
   have c2 := List.append_cancel_right c2
   refine ⟨?_, ?_, ?_⟩
   ·show Rw (P ++ [x]) c.op
    rw [c1]; exact hro
   ·rw [ready_true (by exact hbg)]
    show c.out ++ ([32] ++ (N.getD x.f1.toNat ⟨#[]⟩).data.toList ++ [61, 34] ++ escL x.f3.data.toList ++ [34]) ++ [62] = Gw N (P ++ [x]) c.op
    rw [c1, Gw_q, hGq, c2]
    have e1 : headE N (P ++ [x]) x.f2.toNat = headE N P x.f2.toNat ++ attW N x := by
     unfold headE
     rw [nameW_old (by rw [hpc]; exact p2), snoc_len, range_one, range_same (f := attK N (P ++ [x]) x.f2.toNat) (g := attK N P x.f2.toNat) (fun k hk => attK_old hk)]
     have : attK N (P ++ [x]) x.f2.toNat P.length = attW N x := by unfold attK; rw [getD_new, if_pos ⟨hpc.symm, k2⟩]
     rw [this]; simp
    have e2 : P14.Gw N (P ++ [x]) [x.f2] = headE N P x.f2.toNat ++ attW N x ++ [62] := by
     show opn N (P ++ [x]) x.f2.toNat (P ++ [x]).length ++ [] = _
     unfold opn
     rw [e1, body_none (fun k hk => by
      unfold bodK
      rw [if_neg]
      rintro ⟨e, e'⟩
      rw [snoc_len] at hk
      by_cases hkn : k < P.length
      ·rw [getD_old hkn] at e e'
       exact e' (more_not hmore hkn (by rw [e, hpc]))
      ·obtain rfl : k = P.length := by omega
       rw [getD_new] at e'
       exact e' k2), List.append_nil, List.append_nil]
    rw [e2]
    unfold attW
    simp only [List.append_assoc]
   ·intro z hz
    have hz : c.op.getLast? = some z := hz
    rw [c1, List.getLast?_concat] at hz
    obtain rfl := Option.some.inj hz
    show c.bg = _
    rw [hbg, hap, more_snoc, if_pos rfl, hmore]
    simp [k2]
  ·rw [if_neg k2]
   have hopn : opn N (P ++ [x]) x.f2.toNat P.length = opn N P x.f2.toNat P.length := hA.opn hl p2 (fun e => k2 e.2) (Nat.le_refl _) hkid
   have hGp : Gw N P (t ++ [x.f2]) = Gq N P x.f2 t ++ opn N P x.f2.toNat P.length := by
    rw [Gw_q]
    show _ ++ (opn N P x.f2.toNat P.length ++ []) = _
    rw [List.append_nil]
   by_cases k3 : x.f0 = 3
   ·rw [if_pos k3]
    rw [if_neg (by omega), if_neg k2] at hr
    split at hr
    ·cases hr
    obtain rfl := Option.some.inj hr
    rw [hlast] at hro
    refine ⟨?_, ?_, ?_⟩
    ·show Rw (P ++ [x]) c.op
     rw [c1]; exact hro
    ·rw [ready_false rfl]
     show (readyW c).out ++ escL x.f3.data.toList = Gw N (P ++ [x]) c.op
     rw [c2, c1, hGp, Gw_q, hGq]
     show _ = Gq N P x.f2 t ++ (opn N (P ++ [x]) x.f2.toNat (P ++ [x]).length ++ [])
     have e : opn N (P ++ [x]) x.f2.toNat (P ++ [x]).length = opn N P x.f2.toNat P.length ++ escL x.f3.data.toList := by
      rw [← hopn]
      unfold opn
      rw [snoc_len, range_one, show bodK (elP N (P ++ [x])) (P ++ [x]) x.f2.toNat P.length = escL x.f3.data.toList from by unfold bodK; rw [getD_new, if_pos ⟨hpc.symm, k2⟩, if_pos k3]]
      simp only [List.append_assoc]
     rw [e, List.append_nil, List.append_assoc]
    ·intro z hz
     have hz : c.op.getLast? = some z := hz
     rw [c1, List.getLast?_concat] at hz
     obtain rfl := Option.some.inj hz
     show false = _
     rw [hap, more_snoc, if_pos rfl]
     simp [k2]
   ·have k1 : x.f0 = 1 := by omega
    rw [if_neg k3]
    rw [if_pos k1] at hr
    split at hr
    ·cases hr
    obtain rfl := Option.some.inj hr
    rw [hlast, prK_len] at hro
    have hk0 : ∀ k, k < (P ++ [x]).length → ¬ ((P ++ [x]).getD k nz).f2 = ((P.length : Nat) : Int) := by
     intro k hk e
     rw [snoc_len] at hk
     have := hl k (by rw [snoc_len]; exact hk)
     omega
    refine ⟨?_, ?_, ?_⟩
    ·show Rw (P ++ [x]) ((readyW c).op ++ [(P.length : Int)])
     rw [show (readyW c).op = c.op from rfl, c1]; exact hro
    ·rw [ready_true rfl]
     show (readyW c).out ++ ([60] ++ (N.getD x.f1.toNat ⟨#[]⟩).data.toList) ++ [62] = Gw N (P ++ [x]) ((readyW c).op ++ [(P.length : Int)])
     rw [show (readyW c).op = c.op from rfl, c1, c2, hGp, show t ++ [x.f2] ++ [(P.length : Int)] = t ++ x.f2 :: [(P.length : Int)] from by simp, Gw_q, hGq]
     show _ = Gq N P x.f2 t ++ (opn N (P ++ [x]) x.f2.toNat ((P.length : Int)).toNat ++ (opn N (P ++ [x]) ((P.length : Int)).toNat (P ++ [x]).length ++ []))
     rw [Int.toNat_natCast, hopn]
     have e : opn N (P ++ [x]) P.length (P ++ [x]).length = [60] ++ (N.getD x.f1.toNat ⟨#[]⟩).data.toList ++ [62] := by
      unfold opn headE
      rw [body_none (fun k hk => by unfold attK; rw [if_neg (fun e => hk0 k hk e.1)]), body_none (fun k hk => by unfold bodK; rw [if_neg (fun e => hk0 k hk e.1)])]
      unfold nameW
      have e : ∀ d, (P ++ [x]).getD P.length d = x := fun d => by rw [List.getD_eq_getElem?_getD, List.getElem?_append_right (Nat.le_refl _), Nat.sub_self]; rfl
      rw [Int.toNat_natCast, e]; simp
     rw [e]
     simp only [List.append_assoc, List.append_nil]
    ·intro z hz
     have hz : ((readyW c).op ++ [(P.length : Int)]).getLast? = some z := hz
     rw [List.getLast?_concat] at hz
     obtain rfl := Option.some.inj hz
     show true = !(more (prK (P ++ [x])) (P.length : Int))
     have : more (prK (P ++ [x])) (P.length : Int) = false := by
      cases e : more (prK (P ++ [x])) (P.length : Int) with
      | false => rfl
      | true =>
       exfalso
       unfold more at e
       rw [List.any_eq_true] at e
       obtain ⟨d, hd, -⟩ := e
       obtain ⟨i, i1, i2, i3⟩ := kids_behind _ _ hro.r (P.length : Int) (by omega) d hd
       have := (List.getElem?_eq_some_iff.1 i1).1
       rw [prK_len, snoc_len] at this
       omega
     rw [this]; rfl
theorem nodes_WI {N : List ByteArray} : ∀ (R P : List Nod) (s : WS) (op : List Int), WI N P s → (∀ x, x ∈ R → x.f0 = 1 ∨ x.f0 = 2 ∨ x.f0 = 3) → rows (prK (P ++ R)) = some op → WI N (P ++ R) (nodesW N (P ++ R) R P.length s)
 | [], P, s, op, h, _, _ => by rw [List.append_nil]; exact h
 | x :: R, P, s, op, h, hk, hr => by
  rw [prK_app] at hr
  obtain ⟨o, o', h1, h2, h3⟩ := rows_at (prK P) (prK R) (x, x.f1) op hr
  rw [h.r.r] at h1
  obtain rfl := Option.some.inj h1
  have hs := h.step (R := R) (hk x (List.mem_cons_self ..)) h2
  have ih := nodes_WI R (P ++ [x]) _ op hs (fun y hy => hk y (List.mem_cons_of_mem _ hy)) (by rw [← hr, ← prK_app]; simp)
  rw [snoc_len, List.append_assoc] at ih
  exact ih
theorem end_el {N : List ByteArray} {D : List Nod} {op : List Int} (hk : ∀ x, x ∈ D → x.f0 = 1 ∨ x.f0 = 2 ∨ x.f0 = 3) (hD : 0 < D.length) (hr : rows (prK D) = some op) : (endW N D).out = elP N D 0 := by
 have h := nodes_WI (N := N) D [] ⟨[], [], false⟩ op (WI.zero N) hk hr
 rw [List.nil_append] at h
 have h : WI N D (nodesW N D D 0 ⟨[], [], false⟩) := h
 have hne : 0 < (nodesW N D D 0 ⟨[], [], false⟩).op.length := by
  rcases Nat.eq_zero_or_pos (nodesW N D D 0 ⟨[], [], false⟩).op.length with e | e
  ·have := (rows_path _ _ _ rfl h.r.r).2.2 (List.eq_nil_of_length_eq_zero e)
   have := congrArg List.length (prK_nil.1 this)
   rw [List.length_nil] at this; omega
  ·exact e
 have := close_all (N := N) (R := []) h.r (nodesW N D D 0 ⟨[], [], false⟩).op.length ((nodesW N D D 0 ⟨[], [], false⟩).op.length - 1) _ (by omega) (by rw [show (nodesW N D D 0 ⟨[], [], false⟩).op.length - 1 + 1 = (nodesW N D D 0 ⟨[], [], false⟩).op.length from by omega, List.take_length]) (by omega) h.out
 rw [List.append_nil] at this
 exact this
end Go.Proofs.YtlhhhlimjajnlaaGreat.P14
end
