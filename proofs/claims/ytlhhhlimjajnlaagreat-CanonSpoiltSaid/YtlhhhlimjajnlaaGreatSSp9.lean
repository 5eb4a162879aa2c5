/- Parts of the proof of canonSpoilt_holds, kept and merged by a program of mine (wip/tools/slim.py) out of my texts: LexA ParSpec CanS CanW ParA EscA Esc LexH Ck P14c P14d -/
import Derived.Test.YtlhhhlimjajnlaaGreatSSp0
import Derived.Handy
import Derived.WalkMore
import Derived.Deep.RegionWith
import Derived.Deep.RegionHeld3
import Derived.Deep.RegionLaw
import Derived.Test.YtlhhhlimjajnlaaGreatSSp4
import Derived.Test.YtlhhhlimjajnlaaGreatSSp5
import Derived.Test.YtlhhhlimjajnlaaGreatSSp7
import Derived.Test.YtlhhhlimjajnlaaGreatSSp8
import Derived.Test.YtlhhhlimjajnlaaGreatSSp6
import Derived.Test.YtlhhhlimjajnlaaGreatSSp1
section
set_option linter.unusedVariables false
set_option linter.unusedSimpArgs false
namespace Go.Proofs.YtlhhhlimjajnlaaGreat.X
open Go.RowKit Go.Proofs.YtlhhhlimjajnlaaGreat Go.Proofs.YtlhhhlimjajnlaaGreat.Q Go.Proofs.YtlhhhlimjajnlaaGreatW.PrintWords Go.Proofs.YtlhhhlimjajnlaaGreatW.PrintLast Go.Proofs.YtlhhhlimjajnlaaGreatW.PrintMore
attribute [local go_sem] max2_int min2_int max_two min_two   
abbrev Tok := S51
theorem infoTok : (Tryz.prog.info? 51).map (fun i => (i.zero, i.size, i.bytes)) = some (some (.agg #[(.int .i64 0), (.int .i64 0), (.int .i64 0), (.string ⟨#[]⟩), (.string ⟨#[]⟩)]), 5, 56) := by kernel_rfl
def Rd (w0 W : World) (g : Nat) (d : ByteArray) (a : Int) (ts : List Tok) (x : Bool) : Prop :=
 ∃ v, W.heap[g]? = some (.cells #[.string d, .int .i64 a, v, .bool x] 91 (0, 0)) ∧ w0.heap.size ≤ g ∧ Kd.R k51 51 W w0.heap.size (fun k => k ≠ g) v ts ∧ Below w0.heap.size w0 W
variable {w0 W : World} {g : Nat} {d : ByteArray} {a : Int} {ts : List Tok} {x : Bool}
theorem Rd.below (h : Rd w0 W g d a ts x) {W1 : World} (hb : Below W.heap.size W W1) : Rd w0 W1 g d a ts x := by
 obtain ⟨v, h1, h2, h3, h4⟩ := h
 exact ⟨v, blk_below h1 hb, h2, Kd.R_below h3 hb, below_step h4 hb⟩
theorem Rd.alloc (h : Rd w0 W g d a ts x) (o : Obj) : Rd w0 (W.alloc o) g d a ts x := h.below (below_alloc (Below.refl _ _) o)
theorem Rd.drewN (h : Rd w0 W g d a ts x) (m : Nat) : Rd w0 (W.drewN m) g d a ts x := h.below (pw_below_drewN (Below.refl _ _) m)
theorem Rd.drew (h : Rd w0 W g d a ts x) : Rd w0 W.drew g d a ts x := h.below (below_drew (Below.refl _ _))
theorem Rd.lt (h : Rd w0 W g d a ts x) : g < W.heap.size := by obtain ⟨v, h1, _⟩ := h; exact blk_lt h1
theorem Rd.bel (h : Rd w0 W g d a ts x) : Below w0.heap.size w0 W := by obtain ⟨v, _, _, _, h4⟩ := h; exact h4
theorem Rd.c0 (h : Rd w0 W g d a ts x) : W.cell? ⟨g, 0, none⟩ = some (.string d) := by obtain ⟨v, h1, _⟩ := h; exact (blk_cell h1 0).trans rfl
theorem Rd.c1 (h : Rd w0 W g d a ts x) : W.cell? ⟨g, 1, none⟩ = some (.int .i64 a) := by obtain ⟨v, h1, _⟩ := h; exact (blk_cell h1 1).trans rfl
theorem Rd.c3 (h : Rd w0 W g d a ts x) : W.cell? ⟨g, 3, none⟩ = some (.bool x) := by obtain ⟨v, h1, _⟩ := h; exact (blk_cell h1 3).trans rfl
theorem Rd.f (h : Rd w0 W g d a ts x) (i : Nat) : W.frozen? ⟨g, i, none⟩ = false := by obtain ⟨v, h1, _⟩ := h; exact blk_frozen h1 i
theorem Rd.set1 (h : Rd w0 W g d a ts x) (y : Int) : Rd w0 (W.setCell ⟨g, 1, none⟩ (.int .i64 y)) g d y ts x := by
 obtain ⟨v, h1, h2, h3, h4⟩ := h
 exact ⟨v, by simpa using blk_set h1 1 (.int .i64 y), h2, Kd.R_far (p := ⟨g, 1, none⟩) h3 (fun _ hk => hk) _, h4.setCell h2 _⟩
theorem Rd.set3 (h : Rd w0 W g d a ts x) (y : Bool) : Rd w0 (W.setCell ⟨g, 3, none⟩ (.bool y)) g d a ts y := by
 obtain ⟨v, h1, h2, h3, h4⟩ := h
 exact ⟨v, by simpa using blk_set h1 3 (.bool y), h2, Kd.R_far (p := ⟨g, 3, none⟩) h3 (fun _ hk => hk) _, h4.setCell h2 _⟩
def G (w : World) : Prop := ∃ m, w.cell? ⟨0, 0, none⟩ = some (.int .i64 m)
theorem G.below {w w1 : World} (h : G w) (hb : Below w.heap.size w w1) : G w1 := by
 obtain ⟨m, hm⟩ := h
 have hlt := World.block_lt_of_cell? _ _ hm
 refine ⟨m, ?_⟩
 rw [← hm]
 unfold World.cell?
 have := hb.block 0 hlt
 simp only [this]
set_option maxHeartbeats 4000000 in
set_option maxRecDepth 100000 in
theorem left_c (w : World) (h : Rd w0 w g d a ts x) (h0 : 0 ≤ a) (h1 : a ≤ (d.size : Int)) :
 Calls Tryz.prog 105 #[.pointer (some ⟨g, 0, none⟩)] w fun e w' => e = .returned (.string (d.extract a.toNat d.size)) ∧ ∃ n, w' = w.drewN n := by
 have hc0 := h.c0
 have hc1 := h.c1
 have e0 : decide (0 ≤ a) = true := decide_eq_true h0
 have e1 : decide (a ≤ (d.size : Int)) = true := decide_eq_true h1
 have e2 := eq_true h0
 have e3 := eq_true h1
 go_enter Tryz.func105, Tryz.ntmps105
 go_wp2
 repeat (go_quiet (fail); try go_wp2)
 go_ret
 exact ⟨rfl, _, rfl⟩
set_option maxHeartbeats 4000000 in
set_option maxRecDepth 100000 in
theorem fails_c (w : World) (h : Rd w0 w g d a ts x) :
 Calls Tryz.prog 107 #[.pointer (some ⟨g, 0, none⟩)] w fun e w' => e = .returned (.tuple #[]) ∧ Rd w0 w' g d a ts true := by
 have hc3 := h.c3
 have hf3 := h.f 3
 have H := Lib.hid h
 clear h
 go_enter Tryz.func107, Tryz.ntmps107
 go_wp2
 first | go_end0 | ((try simp only [Exit.inBlock, Exit.then]); refine bodyPost_ret (results_none rfl _ _ _) rfl ?_)
 exact ⟨rfl, by first | exact (H.out.drew).set3 true | exact (H.out).set3 true | exact ((H.out).set3 true).drew⟩
set_option maxHeartbeats 8000000 in
set_option maxRecDepth 100000 in
theorem tell_c (w : World) (h : Rd w0 w g d a ts x) (kind frm til : Int) (nm vl : ByteArray) (hl : ts.length ≤ 1000000) :
 Calls Tryz.prog 108 #[.pointer (some ⟨g, 0, none⟩), .int .i64 kind, .int .i64 frm, .int .i64 til, .string nm, .string vl] w fun e w' => e = .returned (.tuple #[]) ∧ Rd w0 w' g d til (ts ++ [⟨kind, frm, til, nm, vl⟩]) x := by
 have hlt := h.lt
 have hf2 := h.f 2
 obtain ⟨v, h1, h2, h3, h4⟩ := h
 have hc2 : w.cell? ⟨g, 2, none⟩ = some v := (blk_cell h1 2).trans rfl
 have hbs := h4.size
 have H1 := Lib.hid h1
 have H3 := Lib.hid h3
 have H4 := Lib.hid h4
 have HL := Lib.hid hl
 clear h1 h3 h4 hl
 go_enter Tryz.func108, Tryz.ntmps108
 go_wp2_with (at_builtin; refine Kd.R_append k51 (w0 := w0) w0.heap.size rfl (.tmp 16) (.tmp 23) 43 51 (.agg #[(.int .i64 0), (.int .i64 0), (.int .i64 0), (.string ⟨#[]⟩), (.string ⟨#[]⟩)]) 56 rfl Tryz.underlying43 infoTok rfl (by decide) (by omega) v ts (⟨kind, frm, til, nm, vl⟩ : Tok) [.int .i64 kind, .int .i64 frm, .int .i64 til, .string nm, .string vl] (fun k => k ≠ g) (fun _ => False) rfl rfl ?aP (fun _ hk => hk.elim) ?aF ?aO ?aB ?aS ?aL ?_)
 case aP => exact k51_mkM _ _ _ (⟨kind, frm, til, nm, vl⟩ : Tok)
 case aF => exact (fun k hk => by have : w.heap.size ≤ k := hk; omega)
 case aO => exact (by (with_reducible repeat (first | apply Kd.R_alloc | apply Kd.R_drewN | apply Kd.R_drew)); exact H3.out)
 case aB => exact (by repeat (first | (with_reducible first | exact H4.out | apply below_alloc | apply pw_below_drewN | apply below_drew1) | exact H4.out))
 case aS => exact hbs
 case aL => have := HL.out; omega
 intro v1 w1 ho hb hg hat
 obtain ⟨A1, c1, rfl, -, -⟩ := Kd.R_reads ho
 rw [show (ts ++ [(⟨kind, frm, til, nm, vl⟩ : Tok)]).length = ts.length + 1 from by simp] at ho ⊢
 obtain ⟨v1, hv1⟩ : ∃ v1, Value.slice A1 (ts.length + 1) c1 = v1 := ⟨_, rfl⟩
 have hne : some g ≠ v.ownBlock := fun e => H3.out.1 g e.symm rfl
 have h5 : w1.heap[g]? = some (.cells #[.string d, .int .i64 a, v, .bool x] 91 (0, 0)) := blk_grown (by first | exact H1.out | exact blk_drew H1.out | exact blk_drewN H1.out _) hg hne
 have hc2' : w1.cell? ⟨g, 2, none⟩ = some v := (blk_cell h5 2).trans rfl
 have hf2' := blk_frozen h5 2
 have hd : (w1.setCell ⟨g, 2, none⟩ v1).heap[g]? = some (.cells #[.string d, .int .i64 a, v1, .bool x] 91 (0, 0)) := by simpa [hv1] using blk_set h5 2 v1
 have HR : Rd w0 (w1.setCell ⟨g, 2, none⟩ v1) g d a (ts ++ [⟨kind, frm, til, nm, vl⟩]) x := ⟨v1, hd, h2, Kd.R_far (p := ⟨g, 2, none⟩) (hv1 ▸ ho) (fun _ hk => hk) _, hb.setCell h2 _⟩
 have HR' := Lib.hid HR
 have hc1 : w1.cell? ⟨g, 1, none⟩ = some (.int .i64 a) := (blk_cell h5 1).trans rfl
 have hf1 := blk_frozen h5 1
 clear HR hd h5 ho hb hg hat H1 H3 H4
 subst hv1
 go_wp2
 first | go_end0 | ((try simp only [Exit.inBlock, Exit.then]); refine bodyPost_ret (results_none rfl _ _ _) rfl ?_)
 exact ⟨rfl, by first | exact HR'.out.set1 til | exact (HR'.out.drew).set1 til | exact (HR'.out.drewN _).set1 til⟩
def standsB (d : ByteArray) (i : Int) (s : ByteArray) : Bool := Lib.hasPrefix (d.data.toList.drop i.toNat) s.data.toList
set_option maxHeartbeats 8000000 in
set_option maxRecDepth 100000 in
theorem stands_c (w : World) (h : Rd w0 w g d a ts x) (i : Int) (s : ByteArray) (h0 : 0 ≤ i) :
 Calls Tryz.prog 78 #[.pointer (some ⟨g, 0, none⟩), .int .i64 i, .string s] w fun e w' => e = .returned (.bool (standsB d i s)) ∧ ∃ n, w' = w.drewN n := by
 have hc0 := h.c0
 obtain ⟨j, hj⟩ : ∃ j : Int, (if (d.size : Int) < i then (d.size : Int) else i) = j := ⟨_, rfl⟩
 have hj0 : 0 ≤ j := by rw [← hj]; split <;> omega
 have hj1 : j ≤ (d.size : Int) := by rw [← hj]; split <;> omega
 have hdr : Lib.hasPrefix (d.extract j.toNat d.size).data.toList s.data.toList = standsB d i s := by
  unfold standsB
  congr 1
  rw [Lib.extract_data]
  have hl : d.data.toList.length = d.size := (Lib.size_eq d).symm
  rw [List.take_of_length_le (by rw [List.length_drop]; omega)]
  by_cases c : (d.size : Int) < i
  ·rw [if_pos c] at hj
   rw [List.drop_of_length_le (by omega), List.drop_of_length_le (by omega)]
  ·rw [if_neg c] at hj
   rw [hj]
 have e0 : decide (0 ≤ j) = true := decide_eq_true hj0
 have e1 : decide (j ≤ (d.size : Int)) = true := decide_eq_true hj1
 have e2 := eq_true hj0
 have e3 := eq_true hj1
 have hP : ∀ W : World, Calls Tryz.prog 104 #[.string (d.extract j.toNat d.size), .string s] W fun e w' => e = .returned (.bool (standsB d i s)) ∧ Drawn0 W w' := fun W =>
  (Tryz.strings_HasPrefix (d.extract j.toNat d.size) s W).mono fun e w' he => ⟨by rw [he.1, hdr], 0, by rw [he.2]; rfl⟩
 have HD := Lib.hid hdr
 clear hdr
 go_enter Tryz.func78, Tryz.ntmps78
 go_wp2_with (first | (go_at_call 104; (with_reducible refine (hP _).mono ?_); rintro e w' ⟨rfl, ⟨nd, rfl⟩⟩; (try first | exact ⟨rfl, _, World.drewN_drewN _ _ _⟩ | exact ⟨rfl, _, Eq.trans (World.drewN_drewN _ _ _) (congrArg (World.drewN _) (Nat.add_assoc _ _ _))⟩)))
 repeat (go_quiet (first | (go_at_call 104; (with_reducible refine (hP _).mono ?_); rintro e w' ⟨rfl, ⟨nd, rfl⟩⟩; (try first | exact ⟨rfl, _, World.drewN_drewN _ _ _⟩ | exact ⟨rfl, _, Eq.trans (World.drewN_drewN _ _ _) (congrArg (World.drewN _) (Nat.add_assoc _ _ _))⟩))); try go_wp2_with (first | (go_at_call 104; (with_reducible refine (hP _).mono ?_); rintro e w' ⟨rfl, ⟨nd, rfl⟩⟩; (try first | exact ⟨rfl, _, World.drewN_drewN _ _ _⟩ | exact ⟨rfl, _, Eq.trans (World.drewN_drewN _ _ _) (congrArg (World.drewN _) (Nat.add_assoc _ _ _))⟩))))
 go_ret
 exact ⟨rfl, _, rfl⟩
end Go.Proofs.YtlhhhlimjajnlaaGreat.X
end
section
set_option linter.unusedVariables false
set_option linter.unusedSimpArgs false
namespace Go.Proofs.YtlhhhlimjajnlaaGreat.X
open Go Go.RowKit Go.Proofs.YtlhhhlimjajnlaaGreat Go.Proofs.YtlhhhlimjajnlaaGreat.Q Go.Proofs.YtlhhhlimjajnlaaGreatW.PrintWords
abbrev Nod := S41
structure PS where
 n : List Nod
 s : List ByteArray
 o : List Int
 x : ByteArray
 dp : Bool
 wr : Bool
def topP (o : List Int) : Int := o.getLast?.getD (-1)
def putP (p : PS) (k nm : Int) (v name : ByteArray) : PS := { p with n := p.n ++ [⟨k, nm, topP p.o, v⟩], s := p.s ++ [name] }
def flushP (p : PS) : PS :=
 if p.x.data.toList = [] then { p with x := ⟨#[]⟩ }
 else if topP p.o < 0 then { p with x := ⟨#[]⟩, wr := p.wr || decide (skipP p.x.data.toList 0 < (p.x.size : Int)) }
 else putP { p with x := ⟨#[]⟩ } 3 (-1) p.x ⟨#[]⟩
def beginP (p : PS) (name : ByteArray) : PS :=
 let q := flushP p
 let r := putP { q with wr := q.wr || (decide (topP q.o < 0) && decide (0 < q.n.length)), dp := q.dp || decide ((64 : Int) < q.o.length) } 1 0 ⟨#[]⟩ name
 { r with o := r.o ++ [(q.n.length : Int)] }
def attrS (p : PS) (name v : ByteArray) : PS :=
 putP { p with wr := p.wr || ((p.s.drop (topP p.o + 1).toNat).any fun a => a.data.toList == name.data.toList) } 2 0 v name
def endP (p : PS) (name : ByteArray) : PS :=
 let q := flushP p
 if topP q.o < 0 ∨ ¬ (q.s.getD (topP q.o).toNat ⟨#[]⟩).data.toList = name.data.toList then { q with wr := true } else { q with o := q.o.dropLast }
def stepT (p : PS) (t : Tok) : PS :=
 if t.f0 = 7 then p else if t.f0 = 6 then { p with x := p.x ++ t.f4 } else if t.f0 = 1 then beginP p t.f3 else if t.f0 = 2 then attrS p t.f3 t.f4
 else if t.f0 = 4 then endP p (p.s.getD (topP p.o).toNat ⟨#[]⟩) else if t.f0 = 5 then endP p t.f3 else p
def psZero : PS := ⟨[], [], [], ⟨#[]⟩, false, false⟩
def namesOf (p : PS) : List (List UInt8) := ((p.n.zip p.s).filterMap fun c => if c.1.f0 = 3 then none else some c.2.data.toList)
def onceP : List (List UInt8) → List (List UInt8)
 | [] => []
 | a :: t => if t.contains a then onceP t else a :: onceP t
def sortedP (l : List (List UInt8)) : List (List UInt8) := (onceP l).mergeSort fun x y => decide (x ≤ y)
def bytesL (l : List UInt8) : ByteArray := ⟨l.toArray⟩
def numbered (names : List (List UInt8)) (n : Nod) (s : ByteArray) : Nod := if n.f0 = 3 then n else { n with f1 := (names.idxOf s.data.toList : Int) }
def treeP (p : PS) : (List ByteArray × List Nod) × Int :=
 if p.wr = true ∨ 0 < p.o.length ∨ p.n.length = 0 then (([], []), 15)
 else if p.dp = true ∨ 5000 < p.n.length ∨ 1000 < (sortedP (namesOf p)).length then (([], []), 18)
 else (((sortedP (namesOf p)).map bytesL, (p.n.zip p.s).map fun c => numbered (sortedP (namesOf p)) c.1 c.2), 0)
structure CS where
 op : List Int
 m : List Bool
 t : List Bool
 a : Nat → Option (List Int)
def namedP (nn : Nat) (x : Nod) : Bool :=
 if x.f0 = 3 then decide (x.f1 = -1) && !(x.f3.data.toList == [])
 else (decide (0 ≤ x.f1) && decide (x.f1 < (nn : Int))) && (decide (x.f0 = 2) || (decide (x.f0 = 1) && (x.f3.data.toList == [])))
def placeP (op : List Int) (p : Int) : Option (List Int) := if p ∈ op then some (op.take (op.idxOf p + 1)) else none
def rightC (s : CS) (i : Nat) (x : Nod) : Option CS :=
 if i = 0 then (if x.f0 = 1 ∧ x.f2 = -1 then some s else none)
 else match placeP s.op x.f2 with
  | none => none
  | some o =>
   if x.f0 = 1 ∧ 64 < o.length then none
   else if x.f0 = 2 then
    (if s.m.getD x.f2.toNat false = true ∨ x.f1 ∈ (s.a x.f2.toNat).getD [] then none
     else some { s with op := o, a := fun p => if p = x.f2.toNat then some ((s.a x.f2.toNat).getD [] ++ [x.f1]) else s.a p })
   else if x.f0 = 3 then
    (if s.t.getD x.f2.toNat false = true then none else some { s with op := o, m := s.m.set x.f2.toNat true, t := s.t.set x.f2.toNat true })
   else some { s with op := o, m := s.m.set x.f2.toNat true, t := s.t.set x.f2.toNat false }
def openC (s : CS) (i : Nat) (x : Nod) : CS := if x.f0 = 1 then { s with op := s.op ++ [(i : Int)], a := fun p => if p = i then some [] else s.a p } else s
def stepC (nn : Nat) (s : CS) (i : Nat) (x : Nod) : Option CS :=
 if namedP nn x = true ∧ validL x.f3.data.toList = true then (rightC s i x).map fun s' => openC s' i x else none
def nodesC (nn : Nat) : List Nod → Nat → CS → Option CS
 | [], _, s => some s
 | x :: r, i, s => match stepC nn s i x with | none => none | some s' => nodesC nn r (i + 1) s'
def zeroC (n : Nat) : CS := ⟨[], List.replicate n false, List.replicate n false, fun _ => none⟩
def namesC (N : List ByteArray) (D : List Nod) : Bool :=
 (List.range N.length).all fun k => (D.any fun x => decide (x.f1 = (k : Int))) && ((!(N.getD k ⟨#[]⟩).data.toList.isEmpty && (nameEndP (N.getD k ⟨#[]⟩).data.toList 0 == ((N.getD k ⟨#[]⟩).size : Int))) && (decide (k = 0) || decide ((N.getD (k - 1) ⟨#[]⟩).data.toList < (N.getD k ⟨#[]⟩).data.toList)))
def checkV (N : List ByteArray) (D : List Nod) : Int :=
 if D.length = 0 ∨ 5000 < D.length ∨ 1000 < N.length then 1
 else if (nodesC N.length D 0 (zeroC D.length)).isNone = true then 1
 else if namesC N D = true then 0 else 1
structure WS where
 out : List UInt8
 op : List Int
 bg : Bool
def readyW (s : WS) : WS := { s with out := if s.bg = true then s.out ++ [62] else s.out, bg := false }
def nameW (N : List ByteArray) (D : List Nod) (p : Int) : List UInt8 := (N.getD (D.getD p.toNat ⟨0, 0, 0, ⟨#[]⟩⟩).f1.toNat ⟨#[]⟩).data.toList
def popW (N : List ByteArray) (D : List Nod) (s : WS) : WS := { readyW s with out := (readyW s).out ++ ([60, 47] ++ nameW N D (s.op.getLastD 0) ++ [62]), op := s.op.dropLast }
def closeW (N : List ByteArray) (D : List Nod) (p : Int) : Nat → WS → WS
 | 0, s => s
 | k + 1, s => if s.op = [] ∨ s.op.getLastD 0 = p then s else closeW N D p k (popW N D s)
def nodeW (N : List ByteArray) (D : List Nod) (i : Nat) (x : Nod) (s : WS) : WS :=
 let c := closeW N D x.f2 s.op.length s
 if x.f0 = 2 then { c with out := c.out ++ ([32] ++ (N.getD x.f1.toNat ⟨#[]⟩).data.toList ++ [61, 34] ++ escL x.f3.data.toList ++ [34]) }
 else
  let r := readyW c
  if x.f0 = 3 then { r with out := r.out ++ escL x.f3.data.toList }
  else ⟨r.out ++ ([60] ++ (N.getD x.f1.toNat ⟨#[]⟩).data.toList), r.op ++ [(i : Int)], true⟩
def nodesW (N : List ByteArray) (D : List Nod) : List Nod → Nat → WS → WS
 | [], _, s => s
 | x :: r, i, s => nodesW N D r (i + 1) (nodeW N D i x s)
def endW (N : List ByteArray) (D : List Nod) : WS := let s := nodesW N D D 0 ⟨[], [], false⟩; closeW N D (-1) s.op.length s
def writeV (N : List ByteArray) (D : List Nod) : ByteArray × Int :=
 if checkV N D = 0 then (if 65536 < (endW N D).out.length then (⟨#[]⟩, 11) else (⟨(endW N D).out.toArray⟩, 0)) else (⟨#[]⟩, checkV N D)
end Go.Proofs.YtlhhhlimjajnlaaGreat.X
end
section
set_option linter.unusedVariables false
set_option linter.unusedSimpArgs false
namespace Go.Proofs.YtlhhhlimjajnlaaGreat.X
open Go.RowKit Go.Proofs.YtlhhhlimjajnlaaGreat Go.Proofs.YtlhhhlimjajnlaaGreat.Q Go.Proofs.YtlhhhlimjajnlaaGreatW.PrintWords Go.Proofs.YtlhhhlimjajnlaaGreatW.PrintLast Go.Proofs.YtlhhhlimjajnlaaGreatW.PrintMore
attribute [local go_sem] max2_int min2_int max_two min_two   
theorem infoInt : (Tryz.prog.info? 3).map (fun i => (i.zero, i.size, i.bytes)) = some (some (.int .i64 0), 1, 8) := by kernel_rfl
theorem infoStr : (Tryz.prog.info? 9).map (fun i => (i.zero, i.size, i.bytes)) = some (some (.string ⟨#[]⟩), 1, 16) := by kernel_rfl
theorem infoNod : (Tryz.prog.info? 41).map (fun i => (i.zero, i.size, i.bytes)) = some (some (.agg #[.int .i64 0, .int .i64 0, .int .i64 0, .string ⟨#[]⟩]), 4, 40) := by kernel_rfl
def Bd (w0 W : World) (g : Nat) (v1 v2 v3 : Value) (p : PS) : Prop :=
 W.heap[g]? = some (.cells #[v1, v2, v3, .string p.x, .bool p.dp, .bool p.wr] 49 (0, 0)) ∧ w0.heap.size ≤ g ∧
 Kd.R k41 41 W w0.heap.size (fun _ => True) v1 p.n ∧ Kd.R Kd.string 9 W w0.heap.size (fun _ => True) v2 p.s ∧ Kd.R (Kd.int .i64) 3 W w0.heap.size (fun _ => True) v3 p.o ∧
 Below w0.heap.size w0 W
section
variable {w0 W W1 : World} {g : Nat} {v1 v2 v3 : Value} {p : PS}
theorem Bd.below (h : Bd w0 W g v1 v2 v3 p) (hb : Below W.heap.size W W1) : Bd w0 W1 g v1 v2 v3 p := by
 obtain ⟨h1, h2, h3, h4, h5, h6⟩ := h
 exact ⟨blk_below h1 hb, h2, Kd.R_below h3 hb, Kd.R_below h4 hb, Kd.R_below h5 hb, below_step h6 hb⟩
theorem Bd.drewN (h : Bd w0 W g v1 v2 v3 p) (m : Nat) : Bd w0 (W.drewN m) g v1 v2 v3 p := h.below (pw_below_drewN (Below.refl _ _) m)
theorem Bd.drew (h : Bd w0 W g v1 v2 v3 p) : Bd w0 W.drew g v1 v2 v3 p := h.below (below_drew (Below.refl _ _))
theorem Bd.blk (h : Bd w0 W g v1 v2 v3 p) : W.heap[g]? = some (.cells #[v1, v2, v3, .string p.x, .bool p.dp, .bool p.wr] 49 (0, 0)) := h.1
theorem Bd.ge (h : Bd w0 W g v1 v2 v3 p) : w0.heap.size ≤ g := h.2.1
theorem Bd.bel (h : Bd w0 W g v1 v2 v3 p) : Below w0.heap.size w0 W := h.2.2.2.2.2
theorem Bd.c0 (h : Bd w0 W g v1 v2 v3 p) : W.cell? ⟨g, 0, none⟩ = some v1 := (blk_cell h.1 0).trans rfl
theorem Bd.c1 (h : Bd w0 W g v1 v2 v3 p) : W.cell? ⟨g, 1, none⟩ = some v2 := (blk_cell h.1 1).trans rfl
theorem Bd.c2 (h : Bd w0 W g v1 v2 v3 p) : W.cell? ⟨g, 2, none⟩ = some v3 := (blk_cell h.1 2).trans rfl
theorem Bd.c3 (h : Bd w0 W g v1 v2 v3 p) : W.cell? ⟨g, 3, none⟩ = some (.string p.x) := (blk_cell h.1 3).trans rfl
theorem Bd.c4 (h : Bd w0 W g v1 v2 v3 p) : W.cell? ⟨g, 4, none⟩ = some (.bool p.dp) := (blk_cell h.1 4).trans rfl
theorem Bd.c5 (h : Bd w0 W g v1 v2 v3 p) : W.cell? ⟨g, 5, none⟩ = some (.bool p.wr) := (blk_cell h.1 5).trans rfl
theorem Bd.f (h : Bd w0 W g v1 v2 v3 p) (i : Nat) : W.frozen? ⟨g, i, none⟩ = false := blk_frozen h.1 i
theorem Bd.r1 (h : Bd w0 W g v1 v2 v3 p) : Kd.R k41 41 W w0.heap.size (fun _ => True) v1 p.n := h.2.2.1
theorem Bd.r2 (h : Bd w0 W g v1 v2 v3 p) : Kd.R Kd.string 9 W w0.heap.size (fun _ => True) v2 p.s := h.2.2.2.1
theorem Bd.r3 (h : Bd w0 W g v1 v2 v3 p) : Kd.R (Kd.int .i64) 3 W w0.heap.size (fun _ => True) v3 p.o := h.2.2.2.2.1
theorem Bd.n1 (h : Bd w0 W g v1 v2 v3 p) : some g ≠ v1.ownBlock := Kd.R_ne h.r1 h.1 (by decide)
theorem Bd.n2 (h : Bd w0 W g v1 v2 v3 p) : some g ≠ v2.ownBlock := Kd.R_ne h.r2 h.1 (by decide)
theorem Bd.n3 (h : Bd w0 W g v1 v2 v3 p) : some g ≠ v3.ownBlock := Kd.R_ne h.r3 h.1 (by decide)
theorem R_away_set {α : Type} {d : Kd α} {e base : Nat} {v : Value} {xs : List α} (h : d.R e W base (fun _ => True) v xs) (hE : d.E = []) (hne : some g ≠ v.ownBlock) (j : Nat) (u : Value) : d.R e (W.setCell ⟨g, j, none⟩ u) base (fun _ => True) v xs :=
 Kd.R_mono (Kd.R_far (p := ⟨g, j, none⟩) (Kd.R_far1 h hE hne) (fun k hk => hk.2) u) (fun _ _ => trivial)
theorem Bd.set (h : Bd w0 W g v1 v2 v3 p) (q : PS) (hn : q.n = p.n) (hs : q.s = p.s) (ho : q.o = p.o) (j : Nat) (u : Value)
 (hc : (#[v1, v2, v3, .string p.x, .bool p.dp, .bool p.wr] : Array Value).setIfInBounds j u = #[v1, v2, v3, .string q.x, .bool q.dp, .bool q.wr]) : Bd w0 (W.setCell ⟨g, j, none⟩ u) g v1 v2 v3 q := by
 refine ⟨by rw [← hc]; exact blk_set h.1 j u, h.ge, ?_, ?_, ?_, h.bel.setCell h.ge _⟩
 ·rw [hn]; exact R_away_set h.r1 rfl h.n1 j u
 ·rw [hs]; exact R_away_set h.r2 rfl h.n2 j u
 ·rw [ho]; exact R_away_set h.r3 rfl h.n3 j u
theorem rows_apart {α β : Type} {d : Kd α} {d' : Kd β} {e e' b b' : Nat} {ok ok' : Nat → Prop} {v u : Value} {xs : List α} {ys : List β} (h : d.R e W b ok v xs) (h' : d'.R e' W b' ok' u ys) (hne : e' ≠ e) : ∀ k, v.ownBlock = some k → some k ≠ u.ownBlock := by
 intro k hk
 obtain ⟨cells, hc⟩ := Kd.R_typed h k hk
 exact Kd.R_ne h' hc hne
end
set_option maxHeartbeats 4000000 in
set_option maxRecDepth 100000 in
theorem top_c {w0 w : World} {g : Nat} {v1 v2 v3 : Value} {p : PS} (h : Bd w0 w g v1 v2 v3 p) (hl : p.o.length ≤ 1000000) :
 Calls Tryz.prog 29 #[.pointer (some ⟨g, 0, none⟩)] w fun e w' => e = .returned (.int .i64 (topP p.o)) ∧ ∃ n, w' = w.drewN n := by
 have hc2 := h.c2
 obtain ⟨A, c, rfl, hle, hC⟩ := Kd.R_reads h.r3
 rcases List.eq_nil_or_concat p.o with ho | ⟨pre, x, ho⟩
 ·rw [ho] at hc2 ⊢
  simp only [List.length_nil] at hc2
  go_enter Tryz.func29, Tryz.ntmps29
  go_wp2
  first | go_ret | go_ret2 | go_ret3
  exact ⟨rfl, 0, rfl⟩
 ·have hlen : p.o.length = pre.length + 1 := by rw [ho]; simp
  have hi0 : (0 : Int) ≤ (pre.length : Int) := by omega
  obtain ⟨ad, rfl, hx⟩ := Kd.at_int hC (pre.length : Int) (by omega) (by omega)
  have hrd : rd p.o (pre.length : Int) = x := by rw [ho]; unfold rd; simp
  have htop : topP p.o = x := by rw [ho]; unfold topP; simp
  rw [hrd] at hx
  rw [htop]
  rw [hlen] at hc2
  have e1 : IntKind.i64.wrap (((pre.length + 1 : Nat) : Int) - 1) = (pre.length : Int) := zz15
  have e2 : wrap64 (((pre.length + 1 : Nat) : Int) - 1) = (pre.length : Int) := by unfold wrap64; omega
  have e3 : (((pre.length + 1 : Nat) : Int) == 0) = false := by rw [beq_eq_false_iff_ne]; omega
  have p0 := eq_true hi0
  have p1 : ((pre.length : Int) < ((pre.length + 1 : Nat) : Int)) = True := eq_true (by omega)
  rw [Int.toNat_natCast] at hx
  obtain ⟨L, hL⟩ : ∃ L, pre.length + 1 = L := ⟨_, rfl⟩
  obtain ⟨M, hM⟩ : ∃ M, pre.length = M := ⟨_, rfl⟩
  rw [hL] at hc2 e1 e2 e3 p1
  rw [hM] at hx e1 e2 p0 p1
  clear hC hL hM hrd htop hlen
  go_enter Tryz.func29, Tryz.ntmps29
  go_wp2
  all_goals (try go_region)
  all_goals (try go_wp2)
  all_goals first | go_ret | go_ret2 | go_ret3
  all_goals exact ⟨rfl, _, rfl⟩
section
variable {w0 W w1 : World} {g : Nat} {v1 v2 v3 u : Value} {p : PS}
theorem Bd.app1 (h : Bd w0 W g v1 v2 v3 p) (hg : W.grownBy w1 v1.ownBlock) {l : List Nod} (ho : Kd.R k41 41 w1 w0.heap.size (fun _ => True) u l) (hb : Below w0.heap.size w0 w1) :
 Bd w0 (w1.setCell ⟨g, 0, none⟩ u) g u v2 v3 { p with n := l } := by
 have hk := blk_grown h.1 hg h.n1
 have r2 := Kd.R_grown2 h.r2 rfl hg (rows_apart h.r1 h.r2 (by decide))
 have r3 := Kd.R_grown2 h.r3 rfl hg (rows_apart h.r1 h.r3 (by decide))
 exact ⟨blk_set hk 0 u, h.ge, R_away_set ho rfl (Kd.R_ne ho hk (by decide)) 0 u, R_away_set r2 rfl h.n2 0 u, R_away_set r3 rfl h.n3 0 u, hb.setCell h.ge _⟩
theorem Bd.app2 (h : Bd w0 W g v1 v2 v3 p) (hg : W.grownBy w1 v2.ownBlock) {l : List ByteArray} (ho : Kd.R Kd.string 9 w1 w0.heap.size (fun _ => True) u l) (hb : Below w0.heap.size w0 w1) :
 Bd w0 (w1.setCell ⟨g, 1, none⟩ u) g v1 u v3 { p with s := l } := by
 have hk := blk_grown h.1 hg h.n2
 have r1 := Kd.R_grown2 h.r1 rfl hg (rows_apart h.r2 h.r1 (by decide))
 have r3 := Kd.R_grown2 h.r3 rfl hg (rows_apart h.r2 h.r3 (by decide))
 exact ⟨blk_set hk 1 u, h.ge, R_away_set r1 rfl h.n1 1 u, R_away_set ho rfl (Kd.R_ne ho hk (by decide)) 1 u, R_away_set r3 rfl h.n3 1 u, hb.setCell h.ge _⟩
theorem Bd.app3 (h : Bd w0 W g v1 v2 v3 p) (hg : W.grownBy w1 v3.ownBlock) {l : List Int} (ho : Kd.R (Kd.int .i64) 3 w1 w0.heap.size (fun _ => True) u l) (hb : Below w0.heap.size w0 w1) :
 Bd w0 (w1.setCell ⟨g, 2, none⟩ u) g v1 v2 u { p with o := l } := by
 have hk := blk_grown h.1 hg h.n3
 have r1 := Kd.R_grown2 h.r1 rfl hg (rows_apart h.r3 h.r1 (by decide))
 have r2 := Kd.R_grown2 h.r2 rfl hg (rows_apart h.r3 h.r2 (by decide))
 exact ⟨blk_set hk 2 u, h.ge, R_away_set r1 rfl h.n1 2 u, R_away_set r2 rfl h.n2 2 u, R_away_set ho rfl (Kd.R_ne ho hk (by decide)) 2 u, hb.setCell h.ge _⟩
end
section
variable {w0 W W2 : World} {g : Nat} {v1 v2 v3 : Value} {p : PS} {ops : Array Oper} {o : Oper} {a : Act} {Q : Exit → Act → World → Prop} {Kc : Act → World → Prop}
theorem Bd.push1 (h : Bd w0 W g v1 v2 v3 p) (hl : p.n.length ≤ 1000000) (x : Nod) (s y : Operand) (hw : Region.wanted o (yielded ops a.tmps) = true)
 (ho : o.op = .call { callee := .builtin .append, args := #[s, y], argTypes := #[25, 25] }) (hs : a.eval s = v1) (hx : a.eval y = .slice (some ⟨W.heap.size, 0, none⟩) 1 1)
 (hW : W2 = W.alloc (.cells #[.int .i64 x.f0, .int .i64 x.f1, .int .i64 x.f2, .string x.f3] 41))
 (K : ∀ A1 c1 w1, Bd w0 (w1.setCell ⟨g, 0, none⟩ (.slice A1 (p.n.length + 1) c1)) g (.slice A1 (p.n.length + 1) c1) v2 v3 { p with n := p.n ++ [x] } → w1.cell? ⟨g, 0, none⟩ = some v1 → w1.frozen? ⟨g, 0, none⟩ = false → (∀ k (ob : Obj), W.heap[k]? = some ob → some k ≠ v1.ownBlock → w1.heap[k]? = some ob) → Kc (a.put o.dst (.slice A1 (p.n.length + 1) c1)) w1) :
 if Region.wanted o (yielded ops a.tmps) = true then Oper.wp Tryz.prog o a W2 Kc Q else Kc (a.put o.dst undef) W2 := by
 subst hW
 refine Kd.R_append_step k41 (w0 := w0) w0.heap.size hw s y 25 41 (.agg #[.int .i64 0, .int .i64 0, .int .i64 0, .string ⟨#[]⟩]) 40 ho Tryz.underlying25 infoNod rfl (by decide) (by omega) v1 p.n x [.int .i64 x.f0, .int .i64 x.f1, .int .i64 x.f2, .string x.f3] (fun _ => True) (fun _ => False) hs hx (k41_mkM _ _ _ x) (fun _ hk => hk.elim) (fun _ _ => trivial) h.r1 h.bel h.bel.size (by omega) ?_
 intro u w1 ho1 hb hg hat
 have hB := h.app1 hg ho1 hb
 have hk1 := blk_grown h.blk hg h.n1
 obtain ⟨A1, c1, rfl, -, -⟩ := Kd.R_reads ho1
 rw [show (p.n ++ [x]).length = p.n.length + 1 from by simp] at hB ⊢
 exact K A1 c1 w1 hB ((blk_cell hk1 0).trans rfl) (blk_frozen hk1 0) (fun k ob hk hne => blk_grown hk hg hne)
theorem Bd.push3 (h : Bd w0 W g v1 v2 v3 p) (hl : p.o.length ≤ 1000000) (x : Int) (s y : Operand) (hw : Region.wanted o (yielded ops a.tmps) = true)
 (ho : o.op = .call { callee := .builtin .append, args := #[s, y], argTypes := #[47, 47] }) (hs : a.eval s = v3) (hx : a.eval y = .slice (some ⟨W.heap.size, 0, none⟩) 1 1)
 (hW : W2 = W.alloc (.cells #[.int .i64 x] 3))
 (K : ∀ A1 c1 w1, Bd w0 (w1.setCell ⟨g, 2, none⟩ (.slice A1 (p.o.length + 1) c1)) g v1 v2 (.slice A1 (p.o.length + 1) c1) { p with o := p.o ++ [x] } → w1.cell? ⟨g, 2, none⟩ = some v3 → w1.frozen? ⟨g, 2, none⟩ = false → (∀ k (ob : Obj), W.heap[k]? = some ob → some k ≠ v3.ownBlock → w1.heap[k]? = some ob) → Kc (a.put o.dst (.slice A1 (p.o.length + 1) c1)) w1) :
 if Region.wanted o (yielded ops a.tmps) = true then Oper.wp Tryz.prog o a W2 Kc Q else Kc (a.put o.dst undef) W2 := by
 subst hW
 refine Kd.R_append_step (Kd.int .i64) (w0 := w0) w0.heap.size hw s y 47 3 (.int .i64 0) 8 ho Tryz.underlying47 infoInt rfl (by decide) (by omega) v3 p.o x [.int .i64 x] (fun _ => True) (fun _ => False) hs hx rfl (fun _ hk => hk.elim) (fun _ _ => trivial) h.r3 h.bel h.bel.size (by omega) ?_
 intro u w1 ho1 hb hg hat
 have hB := h.app3 hg ho1 hb
 have hk1 := blk_grown h.blk hg h.n3
 obtain ⟨A1, c1, rfl, -, -⟩ := Kd.R_reads ho1
 rw [show (p.o ++ [x]).length = p.o.length + 1 from by simp] at hB ⊢
 exact K A1 c1 w1 hB ((blk_cell hk1 2).trans rfl) (blk_frozen hk1 2) (fun k ob hk hne => blk_grown hk hg hne)
end
section
variable {w0 W W2 : World} {g : Nat} {v1 v2 v3 : Value} {p : PS} {ops : Array Oper} {o : Oper} {a : Act} {Q : Exit → Act → World → Prop} {rest : List Oper}
theorem Bd.list2 (h : Bd w0 W g v1 v2 v3 p) (hl : p.s.length ≤ 1000000) (x : ByteArray) (s y : Operand) (hgd : o.guard = none)
 (ho : o.op = .call { callee := .builtin .append, args := #[s, y], argTypes := #[24, 24] }) (hs : a.eval s = v2) (hx : a.eval y = .slice (some ⟨W.heap.size, 0, none⟩) 1 1)
 (hW : W2 = W.alloc (.cells #[.string x] 9))
 (K : ∀ A1 c1 w1, Bd w0 (w1.setCell ⟨g, 1, none⟩ (.slice A1 (p.s.length + 1) c1)) g v1 (.slice A1 (p.s.length + 1) c1) v3 { p with s := p.s ++ [x] } → w1.cell? ⟨g, 1, none⟩ = some v2 → w1.frozen? ⟨g, 1, none⟩ = false → (∀ k (ob : Obj), W.heap[k]? = some ob → some k ≠ v2.ownBlock → w1.heap[k]? = some ob) → wpList Tryz.prog ops Q rest (a.put o.dst (.slice A1 (p.s.length + 1) c1)) w1) :
 wpList Tryz.prog ops Q (o :: rest) a W2 := by
 subst hW
 refine Kd.R_append Kd.string (w0 := w0) w0.heap.size hgd s y 24 9 (.string ⟨#[]⟩) 16 ho Tryz.underlying24 infoStr rfl (by decide) (by omega) v2 p.s x [.string x] (fun _ => True) (fun _ => False) hs hx rfl (fun _ hk => hk.elim) (fun _ _ => trivial) h.r2 h.bel h.bel.size (by omega) ?_
 intro u w1 ho1 hb hg hat
 have hB := h.app2 hg ho1 hb
 have hk1 := blk_grown h.blk hg h.n2
 obtain ⟨A1, c1, rfl, -, -⟩ := Kd.R_reads ho1
 rw [show (p.s ++ [x]).length = p.s.length + 1 from by simp] at hB ⊢
 exact K A1 c1 w1 hB ((blk_cell hk1 1).trans rfl) (blk_frozen hk1 1) (fun k ob hk hne => blk_grown hk hg hne)
end
set_option maxHeartbeats 8000000 in
set_option maxRecDepth 100000 in
theorem put_c {w0 w : World} {g : Nat} {v1 v2 v3 : Value} {p : PS} (h : Bd w0 w g v1 v2 v3 p) (hl : p.n.length ≤ 1000000) (hl2 : p.s.length ≤ 1000000) (hl3 : p.o.length ≤ 1000000) (k nm pa : Int) (v name : ByteArray) :
 Calls Tryz.prog 57 #[.pointer (some ⟨g, 0, none⟩), .agg #[.int .i64 k, .int .i64 nm, .int .i64 pa, .string v], .string name] w fun e w' => e = .returned (.tuple #[]) ∧ ∃ v1' v2', Bd w0 w' g v1' v2' v3 (putP p k nm v name) := by
 have H := Lib.hid h
 have HL := Lib.hid hl
 have HL2 := Lib.hid hl2
 have HL3 := Lib.hid hl3
 clear h hl hl2 hl3
 go_enter Tryz.func57, Tryz.ntmps57
 go_wp2_with (go_at_call 29; refine (top_c (w0 := w0) (g := g) (v1 := v1) (v2 := v2) (v3 := v3) (p := p) (by exact H.out.below (by repeat (with_reducible first | exact Below.refl _ _ | apply below_alloc | apply pw_below_drewN | apply below_drew1))) HL3.out).mono ?_; rintro e w' ⟨rfl, n, rfl⟩)
 have hb0 := pw_below_drewN (below_alloc (Below.refl w.heap.size w) (.cells #[.int .i64 k, .int .i64 nm, .int .i64 pa, .string v] 41)) n
 have hb1 := Below.setCell (p := ⟨w.heap.size, 2, none⟩) hb0 (Nat.le_refl _) (.int .i64 (topP p.o))
 clear hb0
 have hbx := blk_set (blk_drewN (blk_new w (.cells #[.int .i64 k, .int .i64 nm, .int .i64 pa, .string v] 41)) n) 2 (.int .i64 (topP p.o))
 have H2 := H.out.below hb1
 generalize (((w.alloc (.cells #[.int .i64 k, .int .i64 nm, .int .i64 pa, .string v] 41)).drewN n).setCell ⟨w.heap.size, 2, none⟩ (.int .i64 (topP p.o))) = W1 at *
 obtain ⟨g2, hg2⟩ : ∃ g2, w.heap.size = g2 := ⟨_, rfl⟩
 rw [hg2] at hbx ⊢
 have hbx : W1.heap[g2]? = some (.cells #[.int .i64 k, .int .i64 nm, .int .i64 (topP p.o), .string v] 41 (0, 0)) := hbx
 have hx0 : W1.cell? ⟨g2, 0, none⟩ = some (.int .i64 k) := (blk_cell hbx 0).trans rfl
 have hx1 : W1.cell? ⟨g2, 1, none⟩ = some (.int .i64 nm) := (blk_cell hbx 1).trans rfl
 have hx2 : W1.cell? ⟨g2, 2, none⟩ = some (.int .i64 (topP p.o)) := (blk_cell hbx 2).trans rfl
 have hx3 : W1.cell? ⟨g2, 3, none⟩ = some (.string v) := (blk_cell hbx 3).trans rfl
 have hc0 := H2.c0
 have hca : ∀ o : Obj, (W1.alloc o).cell? ⟨g, 0, none⟩ = some v1 := fun o => (H2.below (below_alloc (Below.refl _ _) o)).c0
 have hsz := H2.bel.size
 have H3 := Lib.hid H2
 have hbx := Lib.hid hbx
 have hn2 : some g2 ≠ v1.ownBlock := fun e => by have := Kd.R_lt H.out.r1 g2 e.symm; omega
 clear hb1 H H2
 go_region_law ((first | refine Bd.push1 (w0 := w0) (v1 := v1) (v2 := v2) (v3 := v3) (p := p) H3.out HL.out (⟨k, nm, topP p.o, v⟩ : Nod) (.tmp 13) (.tmp 15) (by rfl) (by rfl) (by rfl) (by rfl) (by rfl) ?_ | refine Bd.push1 (w0 := w0) (v1 := v1) (v2 := v2) (v3 := v3) (p := p) H3.out.drew HL.out (⟨k, nm, topP p.o, v⟩ : Nod) (.tmp 13) (.tmp 15) (by rfl) (by rfl) (by rfl) (by rfl) (by rfl) ?_); intro A1 c1 w1 hB hd0 he0 hkeep; have hB := Lib.hid hB; have hd1 := hB.out.c1)
 all_goals
  go_wp2_with (at_builtin; refine Bd.list2 (w0 := w0) (g := g) (v2 := v2) (v3 := v3) (p := { p with n := p.n ++ [(⟨k, nm, topP p.o, v⟩ : Nod)] }) hB.out HL2.out name (.tmp 23) (.tmp 25) (by rfl) (by rfl) (by rfl) (by first | rfl | exact congrArg (fun n => Value.slice (some ⟨n, 0, none⟩) 1 1) (by simp)) (by rfl) ?_; intro A2 c2 w2 hB2 hd2 he2 hkeep2; have hB2 := Lib.hid hB2)
  first | go_end0 | go_ret | ((try simp only [Exit.inBlock, Exit.then]); refine bodyPost_ret (results_none rfl _ _ _) rfl ?_)
  exact ⟨rfl, _, _, hB2.out⟩
end Go.Proofs.YtlhhhlimjajnlaaGreat.X
end
section
set_option linter.unusedVariables false
set_option linter.unusedSimpArgs false
namespace Go.Proofs.YtlhhhlimjajnlaaGreat
open Go.RowKit
theorem num_ne (c d : UInt8) (h : ¬ c = d) : ((c.toNat : Int) == (d.toNat : Int)) = false := by
 rw [beq_eq_false_iff_ne]
 exact fun e => h (UInt8.toNat_inj.1 (by omega))
theorem escB_len (c : UInt8) : (escB c).length ≤ 6 := by
 unfold escB
 repeat' (split <;> try simp)
theorem escL_len (l : List UInt8) : (escL l).length ≤ 6 * l.length := by
 induction l with
 | nil => simp [escL]
 | cons c t ih =>
  have h : escL (c :: t) = escB c ++ escL t := by simp [escL]
  have := escB_len c
  rw [h, List.length_append, List.length_cons]
  omega
theorem escL_take (l : List UInt8) (k : Nat) (h : k < l.length) : escL (l.take (k + 1)) = escL (l.take k) ++ escB l[k] := by
 unfold escL
 rw [List.take_succ_eq_append_getElem h, List.flatMap_append]
 simp
theorem newBuilder (w : World) : Lib.IsBuilder 65 5 w.heap.size w.heap.size [] (w.alloc (.cells #[.pointer none, .slice none 0 0] 65)) :=
 .inl ⟨Nat.le_refl _, .slice none 0 0, heap_alloc_new w _, ⟨by simp, .inl ⟨rfl, rfl⟩⟩, by simp [Value.ownBlock]⟩
end Go.Proofs.YtlhhhlimjajnlaaGreat
end
section
set_option linter.unusedVariables false
set_option linter.unusedSimpArgs false
namespace Go.Proofs.YtlhhhlimjajnlaaGreat
open Go.RowKit
set_option maxHeartbeats 4000000 in
set_option maxRecDepth 100000 in
theorem escape_c (s : ByteArray) (hs : s.size ≤ 4294967296) (w : World) :
 Calls Tryz.prog 41 #[.string s] w fun e w' => e = .returned (.string ⟨(escL s.data.toList).toArray⟩) ∧ Below w.heap.size w w' := by
 go_enter Tryz.func41, Tryz.ntmps41
 go_wp2
 have HI : Hid (Lib.IsBuilder 65 5 w.heap.size w.heap.size (Lib.byteCells (escL (s.data.toList.take 0))) (w.alloc (.cells #[.pointer none, .slice none 0 0] 65))) := Lib.hid (newBuilder w)
 go_loopw [7] (fun t wr => ∃ k : Nat, k ≤ s.size ∧ t = .int .i64 k ∧ Hid (Lib.IsBuilder 65 5 w.heap.size w.heap.size (Lib.byteCells (escL (s.data.toList.take k))) wr) ∧ Hid (Below w.heap.size w wr)) (fun t wr => s.size - (intOf t).toNat)
 case atStart => exact ⟨0, Nat.zero_le _, rfl, HI, Lib.hid ((Below.refl _ _).alloc (Nat.le_refl _) _)⟩
 case round =>
  clear HI
  obtain ⟨k, hk, rfl, hb, hbw⟩ := hrel
  have hbsz : w.heap.size ≤ wr.heap.size := hbw.out.size
  by_cases hlt : k < s.size
  ·have hlt' : k < s.data.toList.length := by rw [← Lib.size_eq]; exact hlt
   have hnext := escL_take s.data.toList k hlt'
   have hlen := escL_len (s.data.toList.take k)
   have hl2 : (s.data.toList.take k).length = k := by rw [List.length_take]; omega
   have hlen' : (Lib.byteCells (escL (s.data.toList.take k))).length ≤ 6 * k := by rw [Lib.byteCells_length]; omega
   have HL := Lib.hid hlen'
   have HN := Lib.hid hnext
   obtain ⟨c, hc⟩ : ∃ c, s.data.toList[k] = c := ⟨_, rfl⟩
   have hg : s[k]'hlt = c := by rw [← hc]; rfl
   rw [hc] at hnext
   have HN := Lib.hid hnext
   clear hnext hlen hlen' hl2 hc
   by_cases c1 : c = 38
   ·subst c1
    have hn2 : Hid (Lib.byteCells (escL (s.data.toList.take (k + 1))) = Lib.byteCells (escL (s.data.toList.take k)) ++ Lib.strCells ⟨#[38, 97, 109, 112, 59]⟩) := Lib.hid (by rw [HN.out]; simp [Lib.byteCells, Lib.strCells, escB])
    go_wp2_with (go_at_call 38; refine (writeString w.heap.size w.heap.size _ _ _ hb.out ?h1 ?h2).mono ?_)
    case h1 => have := HL.out; show _ + 5 ≤ _; omega
    case h2 => exact hbsz
    rintro e w1 ⟨rfl, h1, hb1⟩
    have H1 := Lib.hid h1
    have HB1 := Lib.hid hb1
    clear h1 hb1
    go_wp2
    go_roundw
    case rel => exact ⟨k + 1, by omega, by go_num, Lib.hid (by rw [hn2.out]; exact .inr H1.out), Lib.hid (hbw.out.trans HB1.out)⟩
    case measure => simp [intOf]; omega
   by_cases c2 : c = 60
   ·subst c2
    have hn2 : Hid (Lib.byteCells (escL (s.data.toList.take (k + 1))) = Lib.byteCells (escL (s.data.toList.take k)) ++ Lib.strCells ⟨#[38, 108, 116, 59]⟩) := Lib.hid (by rw [HN.out]; simp [Lib.byteCells, Lib.strCells, escB])
    go_wp2_with (go_at_call 38; refine (writeString w.heap.size w.heap.size _ _ _ hb.out ?h1 ?h2).mono ?_)
    case h1 => have := HL.out; show _ + 4 ≤ _; omega
    case h2 => exact hbsz
    rintro e w1 ⟨rfl, h1, hb1⟩
    have H1 := Lib.hid h1
    have HB1 := Lib.hid hb1
    clear h1 hb1
    go_wp2
    go_roundw
    case rel => exact ⟨k + 1, by omega, by go_num, Lib.hid (by rw [hn2.out]; exact .inr H1.out), Lib.hid (hbw.out.trans HB1.out)⟩
    case measure => simp [intOf]; omega
   by_cases c3 : c = 62
   ·subst c3
    have hn2 : Hid (Lib.byteCells (escL (s.data.toList.take (k + 1))) = Lib.byteCells (escL (s.data.toList.take k)) ++ Lib.strCells ⟨#[38, 103, 116, 59]⟩) := Lib.hid (by rw [HN.out]; simp [Lib.byteCells, Lib.strCells, escB])
    go_wp2_with (go_at_call 38; refine (writeString w.heap.size w.heap.size _ _ _ hb.out ?h1 ?h2).mono ?_)
    case h1 => have := HL.out; show _ + 4 ≤ _; omega
    case h2 => exact hbsz
    rintro e w1 ⟨rfl, h1, hb1⟩
    have H1 := Lib.hid h1
    have HB1 := Lib.hid hb1
    clear h1 hb1
    go_wp2
    go_roundw
    case rel => exact ⟨k + 1, by omega, by go_num, Lib.hid (by rw [hn2.out]; exact .inr H1.out), Lib.hid (hbw.out.trans HB1.out)⟩
    case measure => simp [intOf]; omega
   by_cases c4 : c = 34
   ·subst c4
    have hn2 : Hid (Lib.byteCells (escL (s.data.toList.take (k + 1))) = Lib.byteCells (escL (s.data.toList.take k)) ++ Lib.strCells ⟨#[38, 113, 117, 111, 116, 59]⟩) := Lib.hid (by rw [HN.out]; simp [Lib.byteCells, Lib.strCells, escB])
    go_wp2_with (go_at_call 38; refine (writeString w.heap.size w.heap.size _ _ _ hb.out ?h1 ?h2).mono ?_)
    case h1 => have := HL.out; show _ + 6 ≤ _; omega
    case h2 => exact hbsz
    rintro e w1 ⟨rfl, h1, hb1⟩
    have H1 := Lib.hid h1
    have HB1 := Lib.hid hb1
    clear h1 hb1
    go_wp2
    go_roundw
    case rel => exact ⟨k + 1, by omega, by go_num, Lib.hid (by rw [hn2.out]; exact .inr H1.out), Lib.hid (hbw.out.trans HB1.out)⟩
    case measure => simp [intOf]; omega
   have hn2 : Hid (Lib.byteCells (escL (s.data.toList.take (k + 1))) = Lib.byteCells (escL (s.data.toList.take k)) ++ [.int .u8 c.toNat]) := Lib.hid (by rw [HN.out]; unfold escB; rw [if_neg c1, if_neg c2, if_neg c3, if_neg c4]; simp [Lib.byteCells])
   have d1 : ((c.toNat : Int) == 38) = false := num_ne c 38 c1
   have d2 : ((c.toNat : Int) == 60) = false := num_ne c 60 c2
   have d3 : ((c.toNat : Int) == 62) = false := num_ne c 62 c3
   have d4 : ((c.toNat : Int) == 34) = false := num_ne c 34 c4
   clear c1 c2 c3 c4
   go_wp2_with (go_at_call 71; refine (writeByte w.heap.size w.heap.size _ _ _ hb.out ?h1 ?h2).mono ?_)
   case h1 => have := HL.out; omega
   case h2 => exact hbsz
   rintro e w1 ⟨rfl, h1, hb1⟩
   have H1 := Lib.hid h1
   have HB1 := Lib.hid hb1
   clear h1 hb1
   go_wp2
   go_roundw
   case rel => exact ⟨k + 1, by omega, by go_num, Lib.hid (by rw [hn2.out]; exact .inr H1.out), Lib.hid (hbw.out.trans HB1.out)⟩
   case measure => simp [intOf]; omega
  ·have hk' : k = s.size := by omega
   have hfin : escL (s.data.toList.take k) = escL s.data.toList := by rw [List.take_of_length_le (by rw [← Lib.size_eq]; omega)]
   have HB := hb.out
   rw [hfin] at HB
   have HB' := Lib.hid HB
   clear HB hfin
   have hge : decide ((k : Int) < (s.size : Int)) = false := by simp; omega
   clear hk'
   go_wp2_with (go_at_call 43; refine (Tryz.Builder_String_any w.heap.size w.heap.size _ _ HB'.out hbsz).mono ?_)
   rintro e w1 ⟨rfl, hb1⟩
   have HB1 := Lib.hid hb1
   clear hb1
   go_wp2
   go_ret
   exact ⟨rfl, hbw.out.trans HB1.out⟩
namespace X
end X
end Go.Proofs.YtlhhhlimjajnlaaGreat
end
section
set_option linter.unusedVariables false
set_option linter.unusedSimpArgs false
namespace Go.Proofs.YtlhhhlimjajnlaaGreat.X
open Go.RowKit Go.Proofs.YtlhhhlimjajnlaaGreat Go.Proofs.YtlhhhlimjajnlaaGreat.Q Go.Proofs.YtlhhhlimjajnlaaGreatW.PrintWords Go.Proofs.YtlhhhlimjajnlaaGreatW.PrintLast Go.Proofs.YtlhhhlimjajnlaaGreatW.PrintMore
variable {w0 W : World} {g : Nat} {d : ByteArray} {a : Int} {ts : List Tok} {x : Bool}
theorem entersB (a : Array Value) (w : World) : Sem.run Tryz.prog (callFunc 77 a) w = .ok (.enter 77 a) w := by kernel_rfl
set_option maxHeartbeats 4000000 in
set_option maxRecDepth 100000 in
theorem begins_c (w : World) (h : Rd w0 w g d a ts x) (b : Nat) (hb : w.cell? ⟨b, 0, none⟩ = some (.pointer (some ⟨g, 0, none⟩))) (s : ByteArray) (h0 : 0 ≤ a) :
 Calls Tryz.prog 77 #[.string s, .pointer (some ⟨b, 0, none⟩)] w fun e w' => e = .returned (.bool (standsB d a s)) ∧ ∃ n, w' = w.drewN n := by
 have hc1 := h.c1
 have H := Lib.hid h
 have hP : ∀ W : World, Rd w0 W g d a ts x → Calls Tryz.prog 78 #[.pointer (some ⟨g, 0, none⟩), .int .i64 a, .string s] W fun e w' => e = .returned (.bool (standsB d a s)) ∧ Drawn0 W w' := fun W hW =>
  (stands_c W hW a s h0).mono fun e w' he => ⟨he.1, by obtain ⟨n, hn⟩ := he.2; exact ⟨n, hn⟩⟩
 clear h
 go_enter Tryz.func77, Tryz.ntmps77
 go_wp2_with (first | (go_at_call 78; (with_reducible refine (hP _ (by first | exact H.out | exact H.out.drewN _ | exact H.out.drew)).mono ?_); rintro e w' ⟨rfl, ⟨nd, rfl⟩⟩; (try first | exact ⟨rfl, _, World.drewN_drewN _ _ _⟩ | exact ⟨rfl, _, Eq.trans (World.drewN_drewN _ _ _) (congrArg (World.drewN _) (Nat.add_assoc _ _ _))⟩)))
 repeat (go_quiet (first | (go_at_call 78; (with_reducible refine (hP _ (by first | exact H.out | exact H.out.drewN _ | exact H.out.drew)).mono ?_); rintro e w' ⟨rfl, ⟨nd, rfl⟩⟩; (try first | exact ⟨rfl, _, World.drewN_drewN _ _ _⟩ | exact ⟨rfl, _, Eq.trans (World.drewN_drewN _ _ _) (congrArg (World.drewN _) (Nat.add_assoc _ _ _))⟩))); try go_wp2)
 go_ret
 exact ⟨rfl, _, rfl⟩
def nextK (d : ByteArray) (a : Int) : Nat :=
 if standsB d a ⟨#[60, 33, 45, 45]⟩ = true then 79
 else if standsB d a ⟨#[60, 33, 91, 67, 68, 65, 84, 65, 91]⟩ = true then 80
 else if standsB d a ⟨#[60, 47]⟩ = true then 81
 else if standsB d a ⟨#[60]⟩ = true then 82
 else 83
set_option maxHeartbeats 8000000 in
set_option maxRecDepth 100000 in
theorem next_c (w : World) (h : Rd w0 w g d a ts x) (h0 : 0 ≤ a) :
 Calls Tryz.prog 56 #[.pointer (some ⟨g, 0, none⟩)] w fun e w' => e = .returned (.func (.func (nextK d a)) #[.pointer (some ⟨g, 0, none⟩)] #[]) ∧ Below w.heap.size w w' := by
 have H := Lib.hid h
 have hE := entersB
 obtain ⟨k, hk⟩ : ∃ k, nextK d a = k := ⟨_, rfl⟩
 rw [hk]
 unfold nextK at hk
 obtain ⟨s1, hs1⟩ : ∃ s, standsB d a ⟨#[60, 33, 45, 45]⟩ = s := ⟨_, rfl⟩
 obtain ⟨s2, hs2⟩ : ∃ s, standsB d a ⟨#[60, 33, 91, 67, 68, 65, 84, 65, 91]⟩ = s := ⟨_, rfl⟩
 obtain ⟨s3, hs3⟩ : ∃ s, standsB d a ⟨#[60, 47]⟩ = s := ⟨_, rfl⟩
 obtain ⟨s4, hs4⟩ : ∃ s, standsB d a ⟨#[60]⟩ = s := ⟨_, rfl⟩
 rw [hs1, hs2, hs3, hs4] at hk
 clear h
 cases s1 with
 | true =>
  rw [if_pos rfl] at hk
  subst hk
  go_enter Tryz.func56, Tryz.ntmps56
  go_wp2_with (go_at_call 77; (with_reducible refine (begins_c (w0 := w0) (g := g) (d := d) (a := a) (ts := ts) (x := x) _ (zz16) w.heap.size (by simp [World.cell?_alloc_some]) _ h0).mono ?_); rintro e w' ⟨rfl, n_, rfl⟩)
  go_ret
  exact ⟨rfl, zz21⟩
 | false =>
 rw [if_neg (by decide)] at hk
 cases s2 with
 | true =>
  rw [if_pos rfl] at hk
  subst hk
  go_enter Tryz.func56, Tryz.ntmps56
  go_wp2_with (go_at_call 77; (with_reducible refine (begins_c (w0 := w0) (g := g) (d := d) (a := a) (ts := ts) (x := x) _ (zz16) w.heap.size (by simp [World.cell?_alloc_some]) _ h0).mono ?_); rintro e w' ⟨rfl, n_, rfl⟩)
  go_ret
  exact ⟨rfl, zz21⟩
 | false =>
 rw [if_neg (by decide)] at hk
 cases s3 with
 | true =>
  rw [if_pos rfl] at hk
  subst hk
  go_enter Tryz.func56, Tryz.ntmps56
  go_wp2_with (go_at_call 77; (with_reducible refine (begins_c (w0 := w0) (g := g) (d := d) (a := a) (ts := ts) (x := x) _ (zz16) w.heap.size (by simp [World.cell?_alloc_some]) _ h0).mono ?_); rintro e w' ⟨rfl, n_, rfl⟩)
  go_ret
  exact ⟨rfl, zz21⟩
 | false =>
 rw [if_neg (by decide)] at hk
 cases s4 with
 | true =>
  rw [if_pos rfl] at hk
  subst hk
  go_enter Tryz.func56, Tryz.ntmps56
  go_wp2_with (go_at_call 77; (with_reducible refine (begins_c (w0 := w0) (g := g) (d := d) (a := a) (ts := ts) (x := x) _ (zz16) w.heap.size (by simp [World.cell?_alloc_some]) _ h0).mono ?_); rintro e w' ⟨rfl, n_, rfl⟩)
  go_ret
  exact ⟨rfl, zz21⟩
 | false =>
  rw [if_neg (by decide)] at hk
  subst hk
  go_enter Tryz.func56, Tryz.ntmps56
  go_wp2_with (go_at_call 77; (with_reducible refine (begins_c (w0 := w0) (g := g) (d := d) (a := a) (ts := ts) (x := x) _ (zz16) w.heap.size (by simp [World.cell?_alloc_some]) _ h0).mono ?_); rintro e w' ⟨rfl, n_, rfl⟩)
  go_ret
  exact ⟨rfl, zz21⟩
end Go.Proofs.YtlhhhlimjajnlaaGreat.X
end
section
set_option linter.unusedVariables false
set_option linter.unusedSimpArgs false
namespace Go.Proofs.YtlhhhlimjajnlaaGreat.Ck
open Go.RowKit Go.Proofs.YtlhhhlimjajnlaaGreat Go.Proofs.YtlhhhlimjajnlaaGreat.Q Go.Proofs.YtlhhhlimjajnlaaGreatW.PrintWords
abbrev Nd := S41
abbrev nz : Nd := ⟨0, 0, 0, ⟨#[]⟩⟩
variable {κ : Type}
def kids (l : List (Nd × κ)) (p : Int) : List (Nd × κ) := l.filter fun c => decide (c.1.f2 = p)
def more (l : List (Nd × κ)) (p : Int) : Bool := (kids l p).any fun c => decide (¬ c.1.f0 = 2)
def textLast (l : List (Nd × κ)) (p : Int) : Bool := match (kids l p).getLast? with | some c => decide (c.1.f0 = 3) | none => false
def Path (l : List (Nd × κ)) (op : List Int) : Prop :=
 ∀ (j : Nat) (z : Int), op[j]? = some z → 0 ≤ z ∧ z < (l.length : Int) ∧ (∃ c, l[z.toNat]? = some c ∧ c.1.f0 = 1 ∧ c.1.f2 = if j = 0 then -1 else op.getD (j - 1) 0) ∧ (j = 0 → z = 0) ∧ (0 < j → op.getD (j - 1) 0 < z)
theorem Path.take {l : List (Nd × κ)} {op : List Int} (h : Path l op) (n : Nat) : Path l (op.take n) := by
 intro j z hz
 rw [List.getElem?_take] at hz
 split at hz
 ·rename_i hj
  obtain ⟨h1, h2, ⟨c, h3, h4, h5⟩, h6, h7⟩ := h j z hz
  have e : (op.take n).getD (j - 1) 0 = op.getD (j - 1) 0 := by
   rw [List.getD_eq_getElem?_getD, List.getD_eq_getElem?_getD, List.getElem?_take_of_lt (by omega)]
  exact ⟨h1, h2, ⟨c, h3, h4, by rw [e]; exact h5⟩, h6, fun hp => by rw [e]; exact h7 hp⟩
 ·cases hz
theorem Path.put {l : List (Nd × κ)} {op : List Int} (h : Path l op) (c : Nd × κ) : Path (l ++ [c]) op := by
 intro j z hz
 obtain ⟨h1, h2, ⟨d, h3, h4, h5⟩, h6, h7⟩ := h j z hz
 refine ⟨h1, zz39, ⟨d, ?_, h4, h5⟩, h6, h7⟩
 rw [List.getElem?_append_left (by omega)]; exact h3
theorem Path.begin {l : List (Nd × κ)} {op : List Int} (h : Path l op) (c : Nd × κ) (h0 : op = [] → l = []) (hc : c.1.f0 = 1) (hp : c.1.f2 = op.getLast?.getD (-1)) : Path (l ++ [c]) (op ++ [(l.length : Int)]) := by
 intro j z hz
 by_cases hj : j < op.length
 ·rw [List.getElem?_append_left hj] at hz
  obtain ⟨h1, h2, h3, h4, h5⟩ := h.put c j z hz
  have e : (op ++ [(l.length : Int)]).getD (j - 1) 0 = op.getD (j - 1) 0 := by
   rw [List.getD_eq_getElem?_getD, List.getD_eq_getElem?_getD, List.getElem?_append_left (by omega)]
  rw [e]; exact ⟨h1, h2, h3, h4, h5⟩
 ·rw [List.getElem?_append_right (by omega)] at hz
  have hj2 : j - op.length = 0 := by
   have := (List.getElem?_eq_some_iff.1 hz).1
   rw [List.length_singleton] at this; omega
  rw [hj2] at hz
  have hz : (l.length : Int) = z := Option.some.inj hz
  subst hz
  have hjl : j = op.length := by omega
  subst hjl
  refine ⟨by omega, zz38, ⟨c, ?_, hc, ?_⟩, ?_, ?_⟩
  ·rw [Int.toNat_natCast, List.getElem?_append_right (Nat.le_refl _), Nat.sub_self]; rfl
  ·rw [hp]
   rcases List.eq_nil_or_concat op with h' | ⟨pre, y, h'⟩
   ·rw [h']; rfl
   ·rw [h', List.concat_eq_append, List.getLast?_concat, List.length_append, List.length_singleton, if_neg (by omega), List.getD_eq_getElem?_getD, Nat.add_sub_cancel, List.getElem?_append_left (zz38), List.getElem?_append_right (Nat.le_refl _), Nat.sub_self]; rfl
  ·intro h'
   have : op = [] := List.eq_nil_of_length_eq_zero h'
   rw [h0 this]; rfl
  ·intro h'
   rcases List.eq_nil_or_concat op with h'' | ⟨pre, y, h''⟩
   ·rw [h''] at h'; exact absurd h' (by decide)
   ·have hy := h (op.length - 1) y (by rw [h'', List.concat_eq_append, List.length_append, List.length_singleton, Nat.add_sub_cancel, List.getElem?_append_right (Nat.le_refl _), Nat.sub_self]; rfl)
    have : (op ++ [(l.length : Int)]).getD (op.length - 1) 0 = y := by
     rw [List.getD_eq_getElem?_getD, List.getElem?_append_left (by omega)]
     rw [h'', List.concat_eq_append, List.length_append, List.length_singleton, Nat.add_sub_cancel, List.getElem?_append_right (Nat.le_refl _), Nat.sub_self]; rfl
    rw [this]; exact hy.2.1
theorem Path.lt {l : List (Nd × κ)} {op : List Int} (h : Path l op) : ∀ (d i : Nat) (a b : Int), op[i]? = some a → op[i + d + 1]? = some b → a < b
 | 0, i, a, b, ha, hb => by
  have := (h (i + 1) b hb).2.2.2.2 (by omega)
  rw [Nat.add_sub_cancel, List.getD_eq_getElem?_getD, ha] at this
  exact this
 | d + 1, i, a, b, ha, hb => by
  have hl := (List.getElem?_eq_some_iff.1 hb).1
  have hm : op[i + d + 1]? = some op[i + d + 1] := List.getElem?_eq_getElem (by omega)
  have h1 := h.lt d i a _ ha hm
  have h2 := (h (i + (d + 1) + 1) b hb).2.2.2.2 (by omega)
  rw [show i + (d + 1) + 1 - 1 = i + d + 1 from by omega, List.getD_eq_getElem?_getD, hm] at h2
  have h2 : op[i + d + 1] < b := h2
  omega
theorem Path.idx {l : List (Nd × κ)} {op : List Int} (h : Path l op) (j : Nat) (z : Int) (hz : op[j]? = some z) : op.idxOf z = j := by
 have hlt := (List.getElem?_eq_some_iff.1 hz).1
 have hmem : z ∈ op := List.mem_of_getElem? hz
 have h1 := List.idxOf_lt_length_of_mem hmem
 have h2 : op[op.idxOf z]? = some z := by rw [List.getElem?_eq_getElem h1, List.getElem_idxOf]
 rcases Nat.lt_trichotomy (op.idxOf z) j with c | c | c
 ·have := h.lt (j - op.idxOf z - 1) _ z z h2 (by rw [show op.idxOf z + (j - op.idxOf z - 1) + 1 = j from by omega]; exact hz)
  omega
 ·exact c
 ·have := h.lt (op.idxOf z - j - 1) _ z z hz (by rw [show j + (op.idxOf z - j - 1) + 1 = op.idxOf z from by omega]; exact h2)
  omega
variable [DecidableEq κ]
def twice (l : List (Nd × κ)) (p : Int) (k : κ) : Bool := (kids l p).any fun c => decide (c.1.f0 = 2) && decide (c.2 = k)
def right (l : List (Nd × κ)) (op : List Int) (m : Nd) (k : κ) : Option (List Int) :=
 if l = [] then (if m.f0 = 1 ∧ m.f2 = -1 then some [0] else none)
 else if m.f2 ∈ op then
  let o := op.take (op.idxOf m.f2 + 1)
  if m.f0 = 1 then (if 64 < o.length then none else some (o ++ [(l.length : Int)]))
  else if m.f0 = 2 then (if more l m.f2 = true ∨ twice l m.f2 k = true then none else some o)
  else if textLast l m.f2 = true then none else some o
 else none
def run (l : List (Nd × κ)) : List (Nd × κ) → List Int → Option (List (Nd × κ) × List Int)
 | [], op => some (l, op)
 | c :: r, op => match right l op c.1 c.2 with
  | none => none
  | some o => run (l ++ [c]) r o
def rows (l : List (Nd × κ)) : Option (List Int) := (run [] l []).map Prod.snd
theorem run_fst : ∀ (r l : List (Nd × κ)) (op : List Int) (x : List (Nd × κ) × List Int), run l r op = some x → x.1 = l ++ r
 | [], l, op, x, h => by obtain rfl := Option.some.inj h; simp
 | c :: r, l, op, x, h => by
  unfold run at h
  cases hr : right l op c.1 c.2 with
  | none => rw [hr] at h; cases h
  | some o =>
   rw [hr] at h
   rw [run_fst r _ _ _ h]; simp
theorem run_append : ∀ (r t l : List (Nd × κ)) (op : List Int), run l (r ++ t) op = (run l r op).bind fun x => run x.1 t x.2
 | [], t, l, op => rfl
 | c :: r, t, l, op => by
  rw [List.cons_append, run, run]
  cases hr : right l op c.1 c.2 with
  | none => rfl
  | some o => exact run_append r t _ _
theorem rows_snoc (l : List (Nd × κ)) (c : Nd × κ) (op : List Int) (h : rows l = some op) : rows (l ++ [c]) = right l op c.1 c.2 := by
 unfold rows at h ⊢
 rw [run_append]
 cases hr : run [] l [] with
 | none => rw [hr] at h; cases h
 | some x =>
  rw [hr] at h
  have h : x.2 = op := Option.some.inj h
  have h1 := run_fst _ _ _ _ hr
  rw [Option.bind_some, run, h, h1, List.nil_append]
  cases hq : right l op c.1 c.2 with
  | none => rfl
  | some o => rfl
theorem rows_take (l t : List (Nd × κ)) (op : List Int) (h : rows (l ++ t) = some op) : ∃ o, rows l = some o := by
 unfold rows at h ⊢
 rw [run_append] at h
 cases hr : run [] l [] with
 | none => rw [hr] at h; cases h
 | some x => exact ⟨x.2, rfl⟩
theorem rows_at (l t : List (Nd × κ)) (c : Nd × κ) (op : List Int) (h : rows (l ++ c :: t) = some op) : ∃ o o', rows l = some o ∧ right l o c.1 c.2 = some o' ∧ rows (l ++ [c]) = some o' := by
 obtain ⟨o, ho⟩ := rows_take l _ _ h
 rw [List.append_cons] at h
 obtain ⟨o', ho'⟩ := rows_take (l ++ [c]) t _ h
 exact ⟨o, o', ho, by rw [← rows_snoc l c o ho]; exact ho', ho'⟩
theorem right_path {l : List (Nd × κ)} {op o : List Int} {c : Nd × κ} (hp : Path l op) (hn : l = [] → op = []) (h : right l op c.1 c.2 = some o) : Path (l ++ [c]) o ∧ ¬ o = [] := by
 unfold right at h
 by_cases hl : l = []
 ·rw [if_pos hl] at h
  split at h
  ·rename_i hc
   obtain rfl := Option.some.inj h
   have := hp.begin c (fun _ => hl) hc.1 (by rw [hn hl]; exact hc.2)
   rw [hn hl, hl] at this
   rw [hl]; exact ⟨this, by simp⟩
  ·cases h
 ·rw [if_neg hl] at h
  by_cases hm : c.1.f2 ∈ op
  ·rw [if_pos hm] at h
   simp only at h
   have hlt := List.idxOf_lt_length_of_mem hm
   have hne : ¬ op.take (op.idxOf c.1.f2 + 1) = [] := by
    intro e
    have := congrArg List.length e
    rw [List.length_take, List.length_nil] at this; omega
   split at h
   ·rename_i h1
    split at h
    ·cases h
    ·obtain rfl := Option.some.inj h
     refine ⟨(hp.take _).begin c (fun e => absurd e hne) h1 ?_, by simp⟩
     rw [List.getLast?_eq_getElem?, List.length_take, Nat.min_eq_left (by omega), Nat.add_sub_cancel, List.getElem?_take_of_lt (by omega), List.getElem?_eq_getElem hlt, List.getElem_idxOf]; rfl
   ·split at h
    ·split at h
     ·cases h
     ·obtain rfl := Option.some.inj h
      exact ⟨(hp.take _).put c, hne⟩
    ·split at h
     ·cases h
     ·obtain rfl := Option.some.inj h
      exact ⟨(hp.take _).put c, hne⟩
  ·rw [if_neg hm] at h; cases h
theorem rows_path : ∀ (n : Nat) (l : List (Nd × κ)) (op : List Int), l.length = n → rows l = some op → Path l op ∧ (l = [] ↔ op = [])
 | 0, l, op, hn, h => by
  have : l = [] := List.eq_nil_of_length_eq_zero hn
  subst this
  obtain rfl := Option.some.inj h
  exact ⟨fun j z hz => by simp at hz, by simp⟩
 | n + 1, l, op, hn, h => by
  rcases List.eq_nil_or_concat l with h' | ⟨pre, c, h'⟩
  ·rw [h'] at hn; exact absurd hn (by simp)
  ·rw [List.concat_eq_append] at h'
   subst h'
   obtain ⟨o, o', h1, h2, h3⟩ := rows_at pre [] c op h
   rw [h3] at h
   obtain rfl := Option.some.inj h
   have hpre : pre.length = n := by rw [List.length_append, List.length_singleton] at hn; omega
   obtain ⟨p1, p2⟩ := rows_path n pre o hpre h1
   obtain ⟨r1, r2⟩ := right_path p1 p2.1 h2
   exact ⟨r1, by simp [r2]⟩
section
variable {κ : Type}
theorem kids_snoc (l : List (Nd × κ)) (c : Nd × κ) (p : Int) : kids (l ++ [c]) p = if c.1.f2 = p then kids l p ++ [c] else kids l p := by
 unfold kids
 rw [List.filter_append]
 by_cases h : c.1.f2 = p
 ·rw [if_pos h, List.filter_cons_of_pos (by simpa using h)]; rfl
 ·rw [if_neg h, List.filter_cons_of_neg (by simpa using h)]; simp
theorem text_snoc (l : List (Nd × κ)) (c : Nd × κ) (p : Int) : textLast (l ++ [c]) p = if c.1.f2 = p then decide (c.1.f0 = 3) else textLast l p := by
 unfold textLast
 rw [kids_snoc]
 by_cases h : c.1.f2 = p
 ·rw [if_pos h, if_pos h, List.getLast?_concat]
 ·rw [if_neg h, if_neg h]
variable [DecidableEq κ]
theorem rows_low (l : List (Nd × κ)) (op : List Int) (h : rows l = some op) (i : Nat) (c : Nd × κ) (hc : l[i]? = some c) :
 ∃ o o', rows (l.take i) = some o ∧ right (l.take i) o c.1 c.2 = some o' ∧ (i = 0 → c.1.f0 = 1 ∧ c.1.f2 = -1) ∧ (0 < i → 0 ≤ c.1.f2 ∧ c.1.f2 < (i : Int) ∧ c.1.f2 ∈ o ∧ ∃ d, l[c.1.f2.toNat]? = some d ∧ d.1.f0 = 1) := by
 obtain ⟨hi, rfl⟩ := List.getElem?_eq_some_iff.1 hc
 have hsp : l = l.take i ++ l[i] :: l.drop (i + 1) := by rw [List.getElem_cons_drop, List.take_append_drop]
 rw [hsp] at h
 obtain ⟨o, o', h1, h2, h3⟩ := rows_at _ _ _ _ h
 obtain ⟨p1, p2⟩ := rows_path _ _ _ rfl h1
 refine ⟨o, o', h1, h2, fun h0 => ?_, fun h0 => ?_⟩
 ·subst h0
  unfold right at h2
  rw [if_pos (by simp)] at h2
  split at h2
  ·rename_i hc; exact hc
  ·cases h2
 ·have hne : ¬ l.take i = [] := by
   intro e
   have := congrArg List.length e
   rw [List.length_take, List.length_nil] at this; omega
  unfold right at h2
  rw [if_neg hne] at h2
  by_cases hm : l[i].1.f2 ∈ o
  ·have hj := List.idxOf_lt_length_of_mem hm
   have hz : o[o.idxOf l[i].1.f2]? = some l[i].1.f2 := by rw [List.getElem?_eq_getElem hj, List.getElem_idxOf]
   obtain ⟨q1, q2, ⟨d, q3, q4, -⟩, -⟩ := p1 _ _ hz
   rw [List.length_take] at q2
   refine ⟨q1, by omega, hm, d, ?_, q4⟩
   rw [List.getElem?_take_of_lt (by omega)] at q3; exact q3
  ·rw [if_neg hm] at h2; cases h2
theorem kids_behind (l : List (Nd × κ)) (op : List Int) (h : rows l = some op) (p : Int) (hp : 0 ≤ p) (c : Nd × κ) (hc : c ∈ kids l p) : ∃ i : Nat, l[i]? = some c ∧ p < (i : Int) ∧ c.1.f2 = p := by
 unfold kids at hc
 rw [List.mem_filter] at hc
 obtain ⟨hm, hq⟩ := hc
 have hq : c.1.f2 = p := by simpa using hq
 obtain ⟨i, hi⟩ := List.mem_iff_getElem?.1 hm
 obtain ⟨o, o', -, -, r1, r2⟩ := rows_low l op h i c hi
 refine ⟨i, hi, ?_, hq⟩
 rcases Nat.eq_zero_or_pos i with h0 | h0
 ·have := (r1 h0).2; omega
 ·have := (r2 h0).2.1; omega
theorem kids_none (l : List (Nd × κ)) (op : List Int) (h : rows l = some op) : kids l (l.length : Int) = [] := by
 cases hk : kids l (l.length : Int) with
 | nil => rfl
 | cons c t =>
  obtain ⟨i, h1, h2, -⟩ := kids_behind l op h (l.length : Int) (by omega) c (by rw [hk]; exact List.mem_cons_self ..)
  have := (List.getElem?_eq_some_iff.1 h1).1
  omega
end
end Go.Proofs.YtlhhhlimjajnlaaGreat.Ck
end
section
set_option linter.unusedVariables false
set_option linter.unusedSimpArgs false
namespace Go.Proofs.YtlhhhlimjajnlaaGreat.P14
open Go.RowKit Go.Proofs.YtlhhhlimjajnlaaGreat Go.Proofs.YtlhhhlimjajnlaaGreat.Q Go.Proofs.YtlhhhlimjajnlaaGreatW.PrintWords Go.Proofs.YtlhhhlimjajnlaaGreat.X Go.Proofs.YtlhhhlimjajnlaaGreat.Ck
def prK (l : List Nod) : List (Nd × Int) := l.map fun x => (x, x.f1)
theorem prK_app (a b : List Nod) : prK (a ++ b) = prK a ++ prK b := List.map_append
theorem prK_len (a : List Nod) : (prK a).length = a.length := List.length_map _
theorem prK_nil {a : List Nod} : prK a = [] ↔ a = [] := List.map_eq_nil_iff
def atts (l : List (Nd × Int)) (p : Int) : List Int := ((kids l p).filter fun c => decide (c.1.f0 = 2)).map fun c => c.2
theorem twice_atts (l : List (Nd × Int)) (p k : Int) : twice l p k = decide (k ∈ atts l p) := by
 unfold twice atts
 rw [Bool.eq_iff_iff, List.any_eq_true, decide_eq_true_eq, List.mem_map]
 constructor
 ·rintro ⟨c, h1, h2⟩
  rw [Bool.and_eq_true, decide_eq_true_eq, decide_eq_true_eq] at h2
  exact ⟨c, List.mem_filter.2 ⟨h1, by simpa using h2.1⟩, h2.2⟩
 ·rintro ⟨c, h1, h2⟩
  rw [List.mem_filter, decide_eq_true_eq] at h1
  exact ⟨c, h1.1, by rw [Bool.and_eq_true, decide_eq_true_eq, decide_eq_true_eq]; exact ⟨h1.2, h2⟩⟩
theorem more_snoc (l : List (Nd × Int)) (c : Nd × Int) (p : Int) : more (l ++ [c]) p = if c.1.f2 = p then (more l p || decide (¬ c.1.f0 = 2)) else more l p := by
 unfold more
 rw [kids_snoc]
 by_cases h : c.1.f2 = p
 ·rw [if_pos h, if_pos h, List.any_append]; simp
 ·rw [if_neg h, if_neg h]
theorem atts_snoc (l : List (Nd × Int)) (c : Nd × Int) (p : Int) : atts (l ++ [c]) p = if c.1.f2 = p ∧ c.1.f0 = 2 then atts l p ++ [c.2] else atts l p := by
 unfold atts
 rw [kids_snoc]
 by_cases h : c.1.f2 = p
 ·rw [if_pos h, List.filter_append, List.map_append]
  by_cases h2 : c.1.f0 = 2
  ·rw [if_pos ⟨h, h2⟩]; simp [h2]
  ·rw [if_neg (fun e => h2 e.2)]; simp [h2]
 ·rw [if_neg h, if_neg (fun e => h e.1)]
theorem kids_far (l : List (Nd × Int)) (op : List Int) (h : rows l = some op) (p : Nat) (hp : l.length ≤ p) : kids l (p : Int) = [] := by
 cases hk : kids l (p : Int) with
 | nil => rfl
 | cons c t =>
  obtain ⟨i, h1, h2, -⟩ := kids_behind l op h (p : Int) (by omega) c (by rw [hk]; exact List.mem_cons_self ..)
  have := (List.getElem?_eq_some_iff.1 h1).1
  omega
structure CI (n : Nat) (P : List Nod) (s : CS) : Prop where
 r : rows (prK P) = some s.op
 ml : s.m.length = n
 tl : s.t.length = n
 m : ∀ p : Nat, s.m.getD p false = more (prK P) p
 t : ∀ p : Nat, s.t.getD p false = textLast (prK P) p
 a : ∀ p : Nat, (s.a p).getD [] = atts (prK P) p
theorem getD_set {α : Type} (l : List α) (i j : Nat) (x d : α) (h : i < l.length) : (l.set i x).getD j d = if i = j then x else l.getD j d := by
 rw [List.getD_eq_getElem?_getD, List.getD_eq_getElem?_getD, List.getElem?_set]
 by_cases e : i = j
 ·rw [if_pos e, if_pos e, if_pos h]; rfl
 ·rw [if_neg e, if_neg e]
theorem CI.zero (n : Nat) : CI n [] (zeroC n) := by
 refine ⟨rfl, by simp [zeroC], by simp [zeroC], fun p => ?_, fun p => ?_, fun p => rfl⟩
 ·show (List.replicate n false).getD p false = false
  rw [List.getD_eq_getElem?_getD, List.getElem?_replicate]; split <;> rfl
 ·show (List.replicate n false).getD p false = false
  rw [List.getD_eq_getElem?_getD, List.getElem?_replicate]; split <;> rfl
theorem place_some {op : List Int} {p : Int} (h : p ∈ op) : placeP op p = some (op.take (op.idxOf p + 1)) := if_pos h
theorem place_none {op : List Int} {p : Int} (h : ¬ p ∈ op) : placeP op p = none := if_neg h
theorem CI.step {n nn : Nat} {P : List Nod} {s : CS} {x : Nod} (h : CI n P s) (hn : P.length < n) (hx : x.f0 = 1 ∨ x.f0 = 2 ∨ x.f0 = 3) :
 match rightC s P.length x with
 | none => right (prK P) s.op x x.f1 = none
 | some s' => right (prK P) s.op x x.f1 = some (openC s' P.length x).op ∧ CI n (P ++ [x]) (openC s' P.length x) := by
 obtain ⟨p1, p2⟩ := rows_path _ _ _ rfl h.r
 have hap : prK (P ++ [x]) = prK P ++ [(x, x.f1)] := prK_app _ _
 have rowOf : ∀ o, right (prK P) s.op x x.f1 = some o → rows (prK (P ++ [x])) = some o := fun o e => by rw [hap, rows_snoc _ _ _ h.r]; exact e
 unfold rightC
 by_cases h0 : P.length = 0
 ·have hP : P = [] := List.eq_nil_of_length_eq_zero h0
  subst hP
  have hop : s.op = [] := p2.1 rfl
  rw [if_pos h0]
  by_cases c : x.f0 = 1 ∧ x.f2 = -1
  ·rw [if_pos c]
   have hr : right (prK []) s.op x x.f1 = some [0] := by
    unfold right; rw [if_pos (show prK [] = [] from rfl), if_pos c]
   have ho : (openC s ([] : List Nod).length x) = ⟨[0], s.m, s.t, fun p => if p = 0 then some [] else s.a p⟩ := by
    unfold openC; rw [if_pos c.1, hop]; rfl
   simp only
   rw [ho]
   refine ⟨hr, rowOf _ hr, h.ml, h.tl, fun p => ?_, fun p => ?_, fun p => ?_⟩
   ·rw [hap, more_snoc, if_neg (by show ¬ x.f2 = _; omega)]; exact h.m p
   ·rw [hap, text_snoc, if_neg (by show ¬ x.f2 = _; omega)]; exact h.t p
   ·rw [hap, atts_snoc, if_neg (by show ¬ (x.f2 = _ ∧ _); omega)]
    show (if p = 0 then some [] else s.a p).getD [] = _
    by_cases e : p = 0
    ·rw [if_pos e]; rfl
    ·rw [if_neg e]; exact h.a p
  ·rw [if_neg c]
   show right (prK []) s.op x x.f1 = none
   unfold right; rw [if_pos (show prK [] = [] from rfl), if_neg c]
 ·have hne : ¬ prK P = [] := fun e => h0 (by rw [prK_nil.1 e]; rfl)
  rw [if_neg h0]
  unfold right
  rw [if_neg hne]
  by_cases hm : x.f2 ∈ s.op
  ·rw [place_some hm, if_pos hm]
   simp only
   obtain ⟨j, hj⟩ := List.mem_iff_getElem?.1 hm
   obtain ⟨z1, z2, -⟩ := p1 j _ hj
   rw [prK_len] at z2
   have hcast : ((x.f2.toNat : Nat) : Int) = x.f2 := by omega
   have ht : x.f2.toNat < n := by omega
   have key : ∀ p : Nat, (x.f2 = (p : Int)) ↔ x.f2.toNat = p := fun p => by omega
   have hmore : s.m.getD x.f2.toNat false = more (prK P) x.f2 := by rw [h.m, hcast]
   have htext : s.t.getD x.f2.toNat false = textLast (prK P) x.f2 := by rw [h.t, hcast]
   have hatt : (s.a x.f2.toNat).getD [] = atts (prK P) x.f2 := by rw [h.a, hcast]
   have hrr : ∀ o, right (prK P) s.op x x.f1 = some o → rows (prK (P ++ [x])) = some o := rowOf
   unfold right at hrr
   rw [if_neg hne, if_pos hm] at hrr
   simp only at hrr
   rw [hmore, htext, hatt]
   by_cases k1 : x.f0 = 1
   ·rw [if_pos k1]
    rw [if_pos k1] at hrr
    by_cases kd : 64 < (s.op.take (s.op.idxOf x.f2 + 1)).length
    ·rw [if_pos ⟨k1, kd⟩, if_pos kd]
    ·rw [if_neg (fun e => kd e.2), if_neg (by omega), if_neg (by omega), if_neg kd]
     rw [if_neg kd] at hrr
     simp only
     unfold openC
     rw [if_pos k1]
     rw [prK_len] at hrr ⊢
     refine ⟨rfl, hrr _ rfl, (List.length_set ..).trans h.ml, (List.length_set ..).trans h.tl, fun p => ?_, fun p => ?_, fun p => ?_⟩
     ·rw [hap, more_snoc, getD_set _ _ _ _ _ (by rw [h.ml]; exact ht)]
      by_cases e : x.f2.toNat = p
      ·rw [if_pos e, if_pos ((key p).2 e)]; simp [k1]
      ·rw [if_neg e, if_neg (fun e' => e ((key p).1 e'))]; exact h.m p
     ·rw [hap, text_snoc, getD_set _ _ _ _ _ (by rw [h.tl]; exact ht)]
      by_cases e : x.f2.toNat = p
      ·rw [if_pos e, if_pos ((key p).2 e)]; simp [k1]
      ·rw [if_neg e, if_neg (fun e' => e ((key p).1 e'))]; exact h.t p
     ·rw [hap, atts_snoc, if_neg (by show ¬ (x.f2 = _ ∧ x.f0 = 2); omega)]
      show (if p = P.length then some [] else s.a p).getD [] = _
      by_cases e : p = P.length
      ·rw [if_pos e]
       unfold atts
       rw [kids_far _ _ h.r p (by rw [prK_len]; omega)]; rfl
      ·rw [if_neg e]; exact h.a p
   ·rw [if_neg k1, if_neg (fun e => k1 e.1)]
    rw [if_neg k1] at hrr
    by_cases k2 : x.f0 = 2
    ·rw [if_pos k2, if_pos k2]
     rw [if_pos k2] at hrr
     by_cases kd : more (prK P) x.f2 = true ∨ x.f1 ∈ atts (prK P) x.f2
     ·have kd' : more (prK P) x.f2 = true ∨ twice (prK P) x.f2 x.f1 = true := by rw [twice_atts, decide_eq_true_eq]; exact kd
      rw [if_pos kd, if_pos kd']
     ·have kd' : ¬ (more (prK P) x.f2 = true ∨ twice (prK P) x.f2 x.f1 = true) := by rw [twice_atts, decide_eq_true_eq]; exact kd
      rw [if_neg kd, if_neg kd']
      rw [if_neg kd'] at hrr
      simp only
      unfold openC
      rw [if_neg k1]
      refine ⟨rfl, hrr _ rfl, h.ml, h.tl, fun p => ?_, fun p => ?_, fun p => ?_⟩
      ·rw [hap, more_snoc]
       by_cases e : x.f2.toNat = p
       ·rw [if_pos ((key p).2 e)]
        show s.m.getD p false = _
        rw [h.m]; simp [k2]
       ·rw [if_neg (fun e' => e ((key p).1 e'))]; exact h.m p
      ·rw [hap, text_snoc]
       by_cases e : x.f2.toNat = p
       ·rw [if_pos ((key p).2 e)]
        show s.t.getD p false = _
        rw [h.t]
        have hall : ∀ c, c ∈ kids (prK P) (p : Int) → c.1.f0 = 2 := fun c hc => by
         have hn : more (prK P) x.f2 = false := by
          cases hmm : more (prK P) x.f2 with
          | false => rfl
          | true => exact absurd (.inl hmm) kd
         unfold more at hn
         rw [List.any_eq_false] at hn
         have := hn c (by rw [(key p).2 e]; exact hc)
         simpa using this
        unfold textLast
        cases hl : (kids (prK P) (p : Int)).getLast? with
        | none => simp [k2]
        | some c =>
         have := hall c (List.mem_of_getLast? hl)
         simp [this, k2]
       ·rw [if_neg (fun e' => e ((key p).1 e'))]; exact h.t p
      ·rw [hap, atts_snoc]
       show (if p = x.f2.toNat then some (atts (prK P) x.f2 ++ [x.f1]) else s.a p).getD [] = _
       by_cases e : x.f2.toNat = p
       ·rw [if_pos e.symm, if_pos ⟨(key p).2 e, k2⟩, (key p).2 e]; rfl
       ·rw [if_neg (fun e' => e e'.symm), if_neg (fun e' => e ((key p).1 e'.1))]; exact h.a p
    ·have k3 : x.f0 = 3 := by omega
     rw [if_neg k2, if_pos k3, if_neg k2]
     rw [if_neg k2] at hrr
     by_cases kd : textLast (prK P) x.f2 = true
     ·rw [if_pos kd, if_pos kd]
     ·rw [if_neg kd, if_neg kd]
      rw [if_neg kd] at hrr
      simp only
      unfold openC
      rw [if_neg k1]
      refine ⟨rfl, hrr _ rfl, (List.length_set ..).trans h.ml, (List.length_set ..).trans h.tl, fun p => ?_, fun p => ?_, fun p => ?_⟩
      ·rw [hap, more_snoc, getD_set _ _ _ _ _ (by rw [h.ml]; exact ht)]
       by_cases e : x.f2.toNat = p
       ·rw [if_pos e, if_pos ((key p).2 e)]; simp [k3]
       ·rw [if_neg e, if_neg (fun e' => e ((key p).1 e'))]; exact h.m p
      ·rw [hap, text_snoc, getD_set _ _ _ _ _ (by rw [h.tl]; exact ht)]
       by_cases e : x.f2.toNat = p
       ·rw [if_pos e, if_pos ((key p).2 e)]; simp [k3]
       ·rw [if_neg e, if_neg (fun e' => e ((key p).1 e'))]; exact h.t p
      ·rw [hap, atts_snoc, if_neg (by show ¬ (x.f2 = _ ∧ x.f0 = 2); omega)]; exact h.a p
  ·rw [place_none hm, if_neg hm]
def okNod (nn : Nat) (x : Nod) : Bool := namedP nn x && validL x.f3.data.toList
theorem named_kinds {nn : Nat} {x : Nod} (h : namedP nn x = true) : x.f0 = 1 ∨ x.f0 = 2 ∨ x.f0 = 3 := by
 unfold namedP at h
 split at h
 ·rename_i e; exact .inr (.inr e)
 ·simp only [Bool.and_eq_true, Bool.or_eq_true, decide_eq_true_eq] at h
  rcases h.2 with h | h
  ·exact .inr (.inl h)
  ·exact .inl h.1
theorem nodes_run (n nn : Nat) : ∀ (R P : List Nod) (s : CS), CI n P s → P.length + R.length ≤ n → (nodesC nn R P.length s).isSome = (R.all (okNod nn) && (run (prK P) (prK R) s.op).isSome)
 | [], P, s, h, _ => rfl
 | x :: R, P, s, h, hn => by
  have hn : P.length + (R.length + 1) ≤ n := hn
  show (match stepC nn s P.length x with | none => none | some s' => nodesC nn R (P.length + 1) s').isSome = _
  rw [List.all_cons]
  unfold stepC
  by_cases c : namedP nn x = true ∧ validL x.f3.data.toList = true
  ·rw [if_pos c]
   have hs := h.step (nn := nn) (x := x) (by omega) (named_kinds c.1)
   have ho : okNod nn x = true := by unfold okNod; rw [c.1, c.2]; rfl
   rw [ho, Bool.true_and]
   show _ = (R.all (okNod nn) && (run (prK P) ((x, x.f1) :: prK R) s.op).isSome)
   rw [run]
   simp only
   cases hr : rightC s P.length x with
   | none =>
    rw [hr] at hs
    simp only at hs
    rw [hs]
    simp
   | some s' =>
    rw [hr] at hs
    obtain ⟨h1, h2⟩ := hs
    rw [h1]
    have ih := nodes_run n nn R (P ++ [x]) _ h2 (zz38)
    rw [List.length_append, List.length_singleton, prK_app] at ih
    exact ih
  ·rw [if_neg c]
   have ho : okNod nn x = false := by
    unfold okNod
    cases h1 : namedP nn x with
    | false => rfl
    | true => cases h2 : validL x.f3.data.toList with
     | false => rfl
     | true => exact absurd ⟨h1, h2⟩ c
   rw [ho]; simp
theorem nodes_rows (nn : Nat) (D : List Nod) : (nodesC nn D 0 (zeroC D.length)).isSome = (D.all (okNod nn) && (rows (prK D)).isSome) := by
 have := nodes_run D.length nn D [] _ (CI.zero D.length) (by simp)
 have e : (rows (prK D)).isSome = (run [] (prK D) []).isSome := by unfold rows; cases run [] (prK D) [] <;> rfl
 rw [e]; exact this
end Go.Proofs.YtlhhhlimjajnlaaGreat.P14
end
section
set_option linter.unusedVariables false
set_option linter.unusedSimpArgs false
namespace Go.Proofs.YtlhhhlimjajnlaaGreat.P14
open Go.RowKit Go.Proofs.YtlhhhlimjajnlaaGreat Go.Proofs.YtlhhhlimjajnlaaGreat.Q Go.Proofs.YtlhhhlimjajnlaaGreatW.PrintWords Go.Proofs.YtlhhhlimjajnlaaGreat.X Go.Proofs.YtlhhhlimjajnlaaGreat.Ck
section
variable {κ : Type} [DecidableEq κ]
end
structure Rw (P : List Nod) (op : List Int) : Prop where
 r : rows (prK P) = some op
theorem Rw.path {P : List Nod} {op : List Int} (h : Rw P op) : Path (prK P) op := (rows_path _ _ _ rfl h.r).1
theorem prK_get (P : List Nod) (k : Nat) (hk : k < P.length) : (prK P)[k]? = some (P.getD k nz, (P.getD k nz).f1) := by
 unfold prK
 rw [List.getElem?_map, List.getD_eq_getElem?_getD, List.getElem?_eq_getElem hk]; rfl
theorem Rw.at {P : List Nod} {op : List Int} (h : Rw P op) {j : Nat} {z : Int} (hz : op[j]? = some z) : 0 ≤ z ∧ z.toNat < P.length ∧ (P.getD z.toNat nz).f0 = 1 ∧ (P.getD z.toNat nz).f2 = (if j = 0 then -1 else op.getD (j - 1) 0) := by
 obtain ⟨z1, z2, ⟨c, z3, z4, z5⟩, -, -⟩ := h.path j z hz
 rw [prK_len] at z2
 have hlt : z.toNat < P.length := by omega
 rw [prK_get P z.toNat hlt] at z3
 obtain rfl := Option.some.inj z3
 exact ⟨z1, hlt, z4, z5⟩
end Go.Proofs.YtlhhhlimjajnlaaGreat.P14
end
