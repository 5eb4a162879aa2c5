/- Parts of the proof of canonTrees_holds, kept and merged by a program of mine (wip/tools/slim.py) out of my texts: CanK CanO CanJ -/
import Derived.Test.YtlhhhlimjajnlaaGreatSPt0
import Derived.Deep.RegionHeld3
import Derived.Test.YtlhhhlimjajnlaaGreatSPt12
import Derived.Test.YtlhhhlimjajnlaaGreatSPt29
import Derived.Test.YtlhhhlimjajnlaaGreatSPt9
section
set_option linter.unusedVariables false
set_option linter.unusedSimpArgs false
namespace Go.Proofs.YtlhhhlimjajnlaaGreat.X
open Go.RowKit Go.Maps Go.Proofs.YtlhhhlimjajnlaaGreat Go.Proofs.YtlhhhlimjajnlaaGreat.Q Go.Proofs.YtlhhhlimjajnlaaGreatW.PrintWords Go.Proofs.YtlhhhlimjajnlaaGreatW.PrintLast Go.Proofs.YtlhhhlimjajnlaaGreatW.PrintMore
attribute [local go_sem] max2_int min2_int max_two min_two   
theorem R_stayS {w w1 : World} {base : Nat} {v : Value} {l : List Int} (h : Kd.R (Kd.int .i64) 3 w base (fun _ => True) v l) (hs : StayS w w1) : Kd.R (Kd.int .i64) 3 w1 base (fun _ => True) v l :=
 Kd.R_mono (Kd.R_move (Kd.R_bound h) (fun k hk => by
  obtain ⟨_, _, _, q, hq, cells, hc⟩ := hk
  have e : q = 3 := by
   rcases List.mem_cons.1 hq with e | e
   ·exact e
   ·cases e
  subst e
  rw [hs _ _ _ hc (by decide) (by decide), hc])) (fun _ _ => trivial)
def StayT (w w' : World) : Prop := ∀ (q t : Nat) (x : Array Value), w.heap[q]? = some (.cells x t (0, 0)) → t ≠ 65 → t ≠ 5 → t ≠ 4 → t ≠ 47 → w'.heap[q]? = some (.cells x t (0, 0))
theorem StayT.refl (w : World) : StayT w w := fun _ _ _ h _ _ _ _ => h
theorem StayT.trans {a b c : World} (h : StayT a b) (h' : StayT b c) : StayT a c := fun q t x hq h1 h2 h3 h4 => h' q t x (h q t x hq h1 h2 h3 h4) h1 h2 h3 h4
theorem stayT_of {a b : World} (h : StayS a b) : StayT a b := fun q t x hq h1 h2 _ _ => h q t x hq h1 h2
theorem StayT.of_below {w w1 : World} (hb : Below w.heap.size w w1) : StayT w w1 := fun q t x hq _ _ _ _ => blk_below hq hb
theorem StayT.set {w : World} {g t0 : Nat} {y : Array Value} (hg : w.heap[g]? = some (.cells y t0 (0, 0))) (ht : t0 = 4 ∨ t0 = 47) (j : Nat) (v : Value) : StayT w (w.setCell ⟨g, j, none⟩ v) := fun q t x hq h1 h2 h3 h4 => by
 refine blk_far hq (fun e => ?_) _
 have e : q = g := e
 rw [e, hg] at hq
 injection hq with hq
 injection hq with _ hq
 rcases ht with ht | ht
 ·exact h3 (hq.symm.trans ht)
 ·exact h4 (hq.symm.trans ht)
theorem isB_set {W : World} {B b g t : Nat} {x : Array Value} {out : List UInt8} (h : IsB B b out W) (hg : W.heap[g]? = some (.cells x t (0, 0))) (h1 : t ≠ 65) (h2 : t ≠ 5) (j : Nat) (v : Value) : IsB B b out (W.setCell ⟨g, j, none⟩ v) := by
 have key : ∀ {q : Value} {bs : List Value}, Lib.BuilderAt 65 5 B b q bs W → Lib.BuilderAt 65 5 B b q bs (W.setCell ⟨g, j, none⟩ v) := by
  intro q bs h
  obtain ⟨a1, u, a2, a3, a4⟩ := h
  refine ⟨a1, u, ?_, ⟨a3.1, ?_⟩, a4⟩
  ·exact blk_far a2 (fun e => h1 (by
    have e : b = g := e
    rw [e, hg] at a2
    injection a2 with a2
    injection a2 with _ a2)) _
  ·rcases a3.2 with h5 | ⟨k, cap, cur, e1, e2, e3, e4⟩
   ·exact .inl h5
   ·refine .inr ⟨k, cap, cur, e1, e2, ?_, e4⟩
    exact blk_far e3 (fun e => h2 (by
     have e : k = g := e
     rw [e, hg] at e3
     injection e3 with e3
     injection e3 with _ e3)) _
 rcases h with h | h
 ·exact .inl (key h)
 ·exact .inr (key h)
structure Ww (w0 W : World) (b pb gb ob rb tr : Nat) (vN vD vO : Value) (s : WS) : Prop where
 bd : IsB w0.heap.size b s.out W
 pc : W.heap[pb]? = some (.cells #[.func (.func 37) #[] #[.pointer (some ⟨b, 0, none⟩)]] 70 (0, 0))
 gc : W.heap[gb]? = some (.cells #[.bool s.bg] 4 (0, 0))
 oc : W.heap[ob]? = some (.cells #[vO] 47 (0, 0))
 rc : W.heap[rb]? = some (.cells #[.func (.func 39) #[] #[.pointer (some ⟨gb, 0, none⟩), .pointer (some ⟨pb, 0, none⟩)]] 1 (0, 0))
 tc : W.heap[tr]? = some (.cells #[vN, vD] 27 (0, 0))
 ro : Kd.R (Kd.int .i64) 3 W w0.heap.size (fun _ => True) vO s.op
 ggb : w0.heap.size ≤ gb
 gob : w0.heap.size ≤ ob
 bel : Below w0.heap.size w0 W
section
variable {w0 W W1 : World} {b pb gb ob rb tr : Nat} {vN vD vO : Value} {s : WS}
theorem Ww.stay (h : Ww w0 W b pb gb ob rb tr vN vD vO s) {out : List UInt8} (hb : IsB w0.heap.size b out W1) (hB : Below w0.heap.size W W1) (hs : StayS W W1) : Ww w0 W1 b pb gb ob rb tr vN vD vO { s with out := out } :=
 ⟨hb, hs _ _ _ h.pc (by decide) (by decide), hs _ _ _ h.gc (by decide) (by decide), hs _ _ _ h.oc (by decide) (by decide), hs _ _ _ h.rc (by decide) (by decide), hs _ _ _ h.tc (by decide) (by decide), R_stayS h.ro hs, h.ggb, h.gob, h.bel.trans hB⟩
theorem Ww.below (h : Ww w0 W b pb gb ob rb tr vN vD vO s) (hb : Below W.heap.size W W1) : Ww w0 W1 b pb gb ob rb tr vN vD vO s :=
 ⟨isB_below h.bd hb, blk_below h.pc hb, blk_below h.gc hb, blk_below h.oc hb, blk_below h.rc hb, blk_below h.tc hb, Kd.R_below h.ro hb, h.ggb, h.gob, below_step h.bel hb⟩
theorem Ww.begun (h : Ww w0 W b pb gb ob rb tr vN vD vO s) (x : Bool) : Ww w0 (W.setCell ⟨gb, 0, none⟩ (.bool x)) b pb gb ob rb tr vN vD vO { s with bg := x } := by
 have ne : ∀ {q t : Nat} {y : Array Value}, W.heap[q]? = some (.cells y t (0, 0)) → t ≠ 4 → q ≠ gb := fun {q t y} hq ht e => by
  have h2 := h.gc
  rw [← e, hq] at h2
  injection h2 with h2
  injection h2 with _ h2
  exact ht h2
 exact ⟨isB_set h.bd h.gc (by decide) (by decide) _ _, blk_far h.pc (ne h.pc (by decide)) _, blk_set h.gc 0 _, blk_far h.oc (ne h.oc (by decide)) _, blk_far h.rc (ne h.rc (by decide)) _, blk_far h.tc (ne h.tc (by decide)) _, R_away_set h.ro rfl (Kd.R_ne h.ro h.gc (by decide)) 0 _, h.ggb, h.gob, h.bel.setCell h.ggb _⟩
theorem Ww.opens (h : Ww w0 W b pb gb ob rb tr vN vD vO s) {u : Value} {l : List Int} (hr : Kd.R (Kd.int .i64) 3 W w0.heap.size (fun _ => True) u l) : Ww w0 (W.setCell ⟨ob, 0, none⟩ u) b pb gb ob rb tr vN vD u { s with op := l } := by
 have ne : ∀ {q t : Nat} {y : Array Value}, W.heap[q]? = some (.cells y t (0, 0)) → t ≠ 47 → q ≠ ob := fun {q t y} hq ht e => by
  have h2 := h.oc
  rw [← e, hq] at h2
  injection h2 with h2
  injection h2 with _ h2
  exact ht h2
 exact ⟨isB_set h.bd h.oc (by decide) (by decide) _ _, blk_far h.pc (ne h.pc (by decide)) _, blk_far h.gc (ne h.gc (by decide)) _, blk_set h.oc 0 _, blk_far h.rc (ne h.rc (by decide)) _, blk_far h.tc (ne h.tc (by decide)) _, R_away_set hr rfl (Kd.R_ne hr h.oc (by decide)) 0 _, h.ggb, h.gob, h.bel.setCell h.gob _⟩
theorem Ww.ready (h : Ww w0 W b pb gb ob rb tr vN vD vO s) {V : World} (hb : IsB w0.heap.size b (if s.bg = true then s.out ++ [62] else s.out) V) (hB : Below w0.heap.size W V) (hs : StayS W V) : Ww w0 (V.setCell ⟨gb, 0, none⟩ (.bool false)) b pb gb ob rb tr vN vD vO (readyW s) :=
 (h.stay hb hB hs).begun false
end
def okN (N : List ByteArray) (D : List Nod) : Prop := (∀ x, x ∈ N → x.size ≤ 1000000000) ∧ (∀ x, x ∈ D → x.f3.size ≤ 1000000000) ∧ (∀ x, x ∈ D → x.f0 ≠ 3 → 0 ≤ x.f1 ∧ x.f1 < N.length)
def okO (D : List Nod) (s : WS) : Prop := ∀ j, j ∈ s.op → 0 ≤ j ∧ j < D.length ∧ (D.getD j.toNat xz).f0 ≠ 3
theorem getD_memN {N : List ByteArray} {k : Nat} (h : k < N.length) : N.getD k ⟨#[]⟩ ∈ N := by
 rw [List.getD_eq_getElem?_getD, List.getElem?_eq_getElem h]; exact List.getElem_mem h
theorem getD_memD {D : List Nod} {k : Nat} (h : k < D.length) : D.getD k xz ∈ D := by
 rw [List.getD_eq_getElem?_getD, List.getElem?_eq_getElem h]; exact List.getElem_mem h
theorem nameW_le {N : List ByteArray} {D : List Nod} (h : okN N D) (p : Int) (h0 : 0 ≤ p) (h1 : p < D.length) (h2 : (D.getD p.toNat xz).f0 ≠ 3) : (nameW N D p).length ≤ 1000000000 := by
 have hp : p.toNat < D.length := by omega
 have hn := h.2.2 _ (getD_memD hp) h2
 have hk : ((D.getD p.toNat xz).f1).toNat < N.length := by omega
 have := h.1 _ (getD_memN hk)
 unfold nameW
 rw [Lib.size_eq] at this
 exact this
theorem readyW_len (s : WS) : (readyW s).out.length ≤ s.out.length + 1 := by
 unfold readyW
 split <;> simp
theorem popW_len {N : List ByteArray} {D : List Nod} (h : okN N D) {s : WS} (ho : okO D s) (hne : s.op ≠ []) : (popW N D s).out.length + 1100000000 * (popW N D s).op.length ≤ s.out.length + 1100000000 * s.op.length := by
 have hl := readyW_len s
 have hm : s.op.getLastD 0 ∈ s.op := by
  rw [List.getLastD_eq_getLast?, List.getLast?_eq_some_getLast hne]; exact List.getLast_mem hne
 obtain ⟨h0, h1, h2⟩ := ho _ hm
 have hn := nameW_le h _ h0 h1 h2
 have hlen : 0 < s.op.length := List.length_pos_iff.2 hne
 unfold popW
 simp only [List.length_append, List.length_cons, List.length_nil, List.length_dropLast]
 have e : (readyW s).op = s.op := rfl
 omega
theorem popW_ok {N : List ByteArray} {D : List Nod} {s : WS} (ho : okO D s) : okO D (popW N D s) := fun j hj => ho j (List.dropLast_subset _ hj)
theorem putw_c {w0 W : World} {b pb gb ob rb tr p c : Nat} {vN vD vO : Value} {s : WS} {l : List ByteArray} (h : Ww w0 W b pb gb ob rb tr vN vD vO s) (hp : W.heap[p]? = some (.cells (scells l) 9 (0, 0))) (hl : l.length ≤ 1000) (hlen : s.out.length + (putL l).length ≤ 140737488355328) :
 Calls Tryz.prog 37 #[.slice (some ⟨p, 0, none⟩) l.length c, .pointer (some ⟨b, 0, none⟩)] W fun e w' => e = .returned (.tuple #[]) ∧ Ww w0 w' b pb gb ob rb tr vN vD vO { s with out := s.out ++ putL l } ∧ StayT W w' := by
 refine (put_w h.bd h.bel.size hp hl ?_).mono ?_
 ·intro k hk
  have : (putL (l.take k)).length ≤ (putL l).length := by
   unfold putL
   conv => rhs; rw [← List.take_append_drop k l, List.map_append, List.flatten_append, List.length_append]
   omega
  omega
 ·rintro e w1 ⟨rfl, h1, h2, h3⟩
  exact ⟨rfl, h.stay h1 h2 h3, stayT_of h3⟩
theorem ready_c {w0 W : World} {b pb gb ob rb tr : Nat} {vN vD vO : Value} {s : WS} (h : Ww w0 W b pb gb ob rb tr vN vD vO s) (hl : s.out.length ≤ 140737488355000) :
 Calls Tryz.prog 39 #[.pointer (some ⟨gb, 0, none⟩), .pointer (some ⟨pb, 0, none⟩)] W fun e w' => e = .returned (.tuple #[]) ∧ Ww w0 w' b pb gb ob rb tr vN vD vO (readyW s) ∧ StayT W w' := by
 refine (ready_w h.bd h.bel.size h.ggb h.gc h.pc hl).mono ?_
 rintro e w1 ⟨rfl, V, rfl, h1, h2, h3⟩
 exact ⟨rfl, h.ready h1 h2 h3, (stayT_of h3).trans (StayT.set (h3 _ _ _ h.gc (by decide) (by decide)) (.inl rfl) 0 _)⟩
def openN (ob : Nat) (w : World) : Nat := match w.cell? ⟨ob, 0, none⟩ with
 | some (.slice _ n _) => n
 | _ => 0
theorem Ww.openN_ {w0 W : World} {b pb gb ob rb tr : Nat} {vN vD vO : Value} {s : WS} (h : Ww w0 W b pb gb ob rb tr vN vD vO s) : openN ob W = s.op.length := by
 obtain ⟨A, c, rfl, -, -⟩ := Kd.R_reads h.ro
 unfold openN
 rw [(blk_cell h.oc 0).trans (show _ = some (Value.slice A s.op.length c) from rfl)]
theorem closeW_stop {N : List ByteArray} {D : List Nod} {p : Int} {s : WS} (h : s.op = [] ∨ s.op.getLastD 0 = p) : ∀ k, closeW N D p k s = s
 | 0 => rfl
 | k + 1 => by unfold closeW; rw [if_pos h]
theorem popW_op (N : List ByteArray) (D : List Nod) (s : WS) : (popW N D s).op = s.op.dropLast := rfl
theorem seven {w0 W : World} {b pb gb ob rb tr cN cD n nn L M c : Nat} {an ae ad : Addr} {N : List ByteArray} {D : List Nod} {s : WS} {pre : List Int} {x m : Int} {S : ByteArray} (hN : Kd.C Kd.string w0 (some an) nn N) (hD : Kd.C k41 w0 (some ae) n D) (h : Ww w0 W b pb gb ob rb tr (.slice (some an) nn cN) (.slice (some ae) n cD) (.slice (some ad) L c) s)
 (ho : s.op = pre ++ [x]) (hM : pre.length = M) (x0 : 0 ≤ x) (x1 : x < n) (hm : (D.getD x.toNat xz).f1 = m) (m0 : 0 ≤ m) (m1 : m < nn) (hS : N.getD m.toNat ⟨#[]⟩ = S) :
 W.cell? ⟨pb, 0, none⟩ = some (.func (.func 37) #[] #[.pointer (some ⟨b, 0, none⟩)]) ∧ W.cell? ⟨tr, 0, none⟩ = some (.slice (some an) nn cN) ∧ W.cell? ⟨tr, 1, none⟩ = some (.slice (some ae) n cD) ∧ W.cell? ⟨ob, 0, none⟩ = some (.slice (some ad) L c) ∧ W.cell? (ad.add M) = some (.int .i64 x) ∧ W.cell? ⟨(ae.add (x.toNat * 4)).block, (ae.add (x.toNat * 4)).off + 1, none⟩ = some (.int .i64 m) ∧ W.cell? (an.add m.toNat) = some (.string S) := by
 refine ⟨(blk_cell h.pc 0).trans rfl, (blk_cell h.tc 0).trans rfl, (blk_cell h.tc 1).trans rfl, (blk_cell h.oc 0).trans rfl, ?_, ?_, ?_⟩
 ·obtain ⟨A, c', hv, -, hC⟩ := Kd.R_reads h.ro
  injection hv with hA
  subst hA
  have hl : s.op.length = M + 1 := by rw [ho]; simp [hM]
  obtain ⟨ad1, hA1, hcell⟩ := Kd.at_int hC (M : Int) (by omega) (by omega)
  obtain rfl : ad = ad1 := Option.some.inj hA1
  have hx : rd s.op (M : Int) = x := by
   unfold rd
   rw [Int.toNat_natCast, ho, List.getD_eq_getElem?_getD, ← hM]; simp
  rw [hx, Int.toNat_natCast] at hcell
  exact hcell
 ·obtain ⟨ae1, hAE, -, r1, -, -⟩ := at_T41 (Kd.C_below hD h.bel) x x0 x1
  obtain rfl : ae = ae1 := Option.some.inj hAE
  have hrd : rd_T41 D x = D.getD x.toNat xz := rfl
  rw [hrd, hm] at r1
  exact r1
 ·obtain ⟨an1, hAN, hre⟩ := Kd.at_string (Kd.C_below hN h.bel) m m0 m1
  obtain rfl : an = an1 := Option.some.inj hAN
  have hrs : rdOf ByteArray.empty N m = S := hS
  rw [hrs] at hre
  exact hre
set_option maxHeartbeats 8000000 in
set_option maxRecDepth 100000 in
theorem close_c {w0 w : World} {b pb gb ob rb tr cN cD : Nat} {AN AD : Option Addr} {vO : Value} {N : List ByteArray} {D : List Nod} {s : WS} (hN : Kd.C Kd.string w0 AN N.length N) (hD : Kd.C k41 w0 AD D.length D) (h : Ww w0 w b pb gb ob rb tr (.slice AN N.length cN) (.slice AD D.length cD) vO s)
 (hok : okN N D) (ho : okO D s) (hlen : s.out.length + 1100000000 * s.op.length ≤ 100000000000000) (hlo : s.op.length ≤ 1000000) (hl1 : N.length ≤ 1000000) (hl2 : D.length ≤ 1000000) (p : Int) :
 Calls Tryz.prog 40 #[.int .i64 p, .pointer (some ⟨ob, 0, none⟩), .pointer (some ⟨rb, 0, none⟩), .pointer (some ⟨pb, 0, none⟩), .pointer (some ⟨tr, 0, none⟩)] w fun e w' => e = .returned (.tuple #[]) ∧ (∃ vO', Ww w0 w' b pb gb ob rb tr (.slice AN N.length cN) (.slice AD D.length cD) vO' (closeW N D p s.op.length s)) ∧ StayT w w' := by
 obtain ⟨n, hn⟩ : ∃ n, D.length = n := ⟨_, rfl⟩
 obtain ⟨nn, hnn⟩ : ∃ nn, N.length = nn := ⟨_, rfl⟩
 obtain ⟨R, hR⟩ : ∃ R, closeW N D p s.op.length s = R := ⟨_, rfl⟩
 have HR := Lib.hid hR
 have HOK := Lib.hid hok
 have HO := Lib.hid ho
 have HL := Lib.hid hlen
 have HLO := Lib.hid hlo
 have HNN := Lib.hid hnn
 have HDN := Lib.hid hn
 rw [hR]
 rw [hnn] at hN h hl1 ⊢
 rw [hn] at hD h hl2 ⊢
 have HN := Lib.hid hN
 have HD := Lib.hid hD
 have H := Lib.hid h
 have HL1 := Lib.hid hl1
 have HL2 := Lib.hid hl2
 clear hR hok ho hlen hlo hN hD h hnn hn hl1 hl2
 go_enter Tryz.func40, Tryz.ntmps40
 go_wp2
 go_loopw [18] (fun t wr => ∃ s' vO', Hid (Ww w0 wr b pb gb ob rb tr (.slice AN nn cN) (.slice AD n cD) vO' s') ∧ Hid (closeW N D p s'.op.length s' = R) ∧ Hid (okO D s') ∧ Hid (s'.out.length + 1100000000 * s'.op.length ≤ 100000000000000) ∧ Hid (s'.op.length ≤ 1000000) ∧ Hid (StayT w wr)) (fun t wr => openN ob wr)
 case atStart => exact ⟨_, _, H, HR, HO, HL, HLO, Lib.hid (StayT.refl _)⟩
 case round =>
  clear H HR HO HL HLO
  obtain ⟨s', vO', H, HR, HO, HL, HLO, HT⟩ := hrel
  obtain ⟨A, c, hv, hle, hC⟩ := Kd.R_reads H.out.ro
  subst hv
  have hmeas := Lib.hid H.out.openN_
  have hop := H.out.oc
  have hoc := (blk_cell hop 0).trans (show _ = some (Value.slice A s'.op.length c) from rfl)
  rcases List.eq_nil_or_concat s'.op with ho | ⟨pre, x, ho⟩
  ·have HS := Lib.hid (show s' = R by rw [← HR.out, closeW_stop (.inl ho)])
   rw [ho] at hoc
   simp only [List.length_nil] at hoc
   have HC := Lib.hid hoc
   clear hop hle hC ho
   have p0 : ((0 : Int) < ((0 : Nat) : Int)) = False := eq_false (by omega)
   go_wp2
   first | go_end0 | go_ret | ((try simp only [Exit.inBlock, Exit.then]); refine bodyPost_ret (results_none rfl _ _ _) rfl ?_)
   exact ⟨rfl, ⟨_, HS.out ▸ H.out⟩, HT.out⟩
  ·rw [List.concat_eq_append] at ho
   obtain ⟨L, hL⟩ : ∃ L, s'.op.length = L := ⟨_, rfl⟩
   have hpl : pre.length + 1 = L := by rw [← hL, ho]; simp
   obtain ⟨M, hM⟩ : ∃ M, pre.length = M := ⟨_, rfl⟩
   rw [hM] at hpl
   rw [hL] at hoc hle hC
   obtain ⟨ad, hA, hcell⟩ := Kd.at_int hC (M : Int) (by omega) (by omega)
   subst hA
   have hx : rd s'.op (M : Int) = x := by
    unfold rd
    rw [Int.toNat_natCast, ho, List.getD_eq_getElem?_getD, ← hM]; simp
   rw [hx, Int.toNat_natCast] at hcell
   have hlast : s'.op.getLastD 0 = x := by rw [ho]; simp
   have HLO2 := HLO.out
   have hLb : L ≤ 1000000 := by omega
   have p0 : ((0 : Int) < (L : Int)) = True := eq_true (by omega)
   have p0' : (0 < L) = True := eq_true (by omega)
   have e1 : IntKind.i64.wrap ((L : Int) - 1) = (M : Int) := zz28
   have p1 : ((0 : Int) ≤ (M : Int)) = True := eq_true (by omega)
   have p2 : ((M : Int) < (L : Int)) = True := eq_true (by omega)
   have p2' : (M < L) = True := eq_true (by omega)
   have p3 : ((M : Int) ≤ (c : Int)) = True := eq_true (by omega)
   have p3' : (M ≤ c) = True := eq_true (by omega)
   by_cases hxp : x = p
   ·have HS := Lib.hid (show s' = R by rw [← HR.out, closeW_stop (.inr (by rw [hlast, hxp]))])
    subst hxp
    have q0 : ((x : Int) != x) = false := by simp
    have HC := Lib.hid hoc
    clear hop hle hC ho HLO2
    go_wp2
    first | go_end0 | go_ret | ((try simp only [Exit.inBlock, Exit.then]); refine bodyPost_ret (results_none rfl _ _ _) rfl ?_)
    exact ⟨rfl, ⟨_, HS.out ▸ H.out⟩, HT.out⟩
   ·have q0 : ((x : Int) != p) = true := by simp [hxp]
    have hxm : x ∈ s'.op := by rw [ho]; simp
    obtain ⟨x0, x1, x2⟩ := HO.out x hxm
    rw [HDN.out] at x1
    have hpop : closeW N D p (popW N D s').op.length (popW N D s') = R := by
     rw [← HR.out]
     conv => rhs; rw [hL, ← hpl]; unfold closeW
     rw [if_neg (fun h => h.elim (fun h => by rw [h] at ho; simp at ho) (fun h => hxp (by rw [← hlast, h]))), popW_op, ho, List.dropLast_concat, hM]
    have hlp := popW_len HOK.out HO.out (by rw [ho]; simp)
    have HP := Lib.hid hpop
    have HLP := Lib.hid (Nat.le_trans hlp HL.out)
    have hrc := (blk_cell H.out.rc 0).trans (show _ = some (Value.func (.func 39) #[] #[.pointer (some ⟨gb, 0, none⟩), .pointer (some ⟨pb, 0, none⟩)]) from rfl)
    have hnm := HOK.out.2.2 _ (getD_memD (k := x.toNat) (by rw [HDN.out]; omega)) x2
    rw [HNN.out] at hnm
    have HX := Lib.hid (And.intro x0 (And.intro x1 (And.intro x2 hnm)))
    have HHL := Lib.hid (And.intro hL (And.intro hpl (And.intro hM (And.intro ho hlast))))
    clear hop hle hC hpop hlp hlast hxm hx x2 ho HLO2
    go_wp2_with (go_at_call 39; refine (ready_c H.out (by have := HL.out; omega)).mono ?_; rintro e w1 ⟨rfl, h1, ht1⟩; have H1 := Lib.hid h1; have HT1 := Lib.hid ht1; obtain ⟨A1, c1, hv1, hle1, hC1⟩ := Kd.R_reads h1.ro; (have hop1 : (readyW s').op = s'.op := rfl); rw [hop1, hL] at hle1 hC1; obtain ⟨ad1, hA1, hcell1⟩ := Kd.at_int hC1 (M : Int) (by omega) (by omega); (have hx1 : rd s'.op (M : Int) = x := by unfold rd; rw [Int.toNat_natCast, HHL.out.2.2.2.1, List.getD_eq_getElem?_getD, ← hM]; simp); rw [hx1, Int.toNat_natCast] at hcell1)
    obtain rfl : ad = ad1 := Option.some.inj hA1
    rw [hL] at h1
    have hof1 := blk_frozen h1.oc 0
    obtain ⟨ae, hAE, -, -, -, -⟩ := at_T41 HD.out x x0 x1
    obtain ⟨m, hm⟩ : ∃ m, (D.getD x.toNat xz).f1 = m := ⟨_, rfl⟩
    rw [hm] at hnm
    obtain ⟨an, hAN, -⟩ := Kd.at_string HN.out m hnm.1 hnm.2
    obtain ⟨S, hS⟩ : ∃ S, N.getD m.toNat ⟨#[]⟩ = S := ⟨_, rfl⟩
    subst hAE
    subst hAN
    have hsev : ∀ (W : World) (s2 : WS), Ww w0 W b pb gb ob rb tr (.slice (some an) nn cN) (.slice (some ae) n cD) (.slice (some ad) L c) s2 → s2.op = s'.op → _ := fun W s2 h h2 => seven HN.out HD.out h (h2.trans HHL.out.2.2.2.1) hM x0 x1 hm hnm.1 hnm.2 hS
    have HSEV := Lib.hid hsev
    obtain ⟨s1, s2, s3, s4, s5, s6, s7⟩ := HSEV.out w1 _ h1 rfl
    have HW1 := Lib.hid h1
    have p4 : ((0 : Int) ≤ x) = True := eq_true x0
    have p5 : (x < (n : Int)) = True := eq_true x1
    have p6 : ((0 : Int) ≤ m) = True := eq_true hnm.1
    have p7 : (m < (nn : Int)) = True := eq_true hnm.2
    have hNW : nameW N D x = S.data.toList := by unfold nameW; rw [show (D.getD x.toNat ⟨0, 0, 0, ⟨#[]⟩⟩).f1 = m from hm, hS]
    have hSl : (putL [(⟨#[60, 47]⟩ : ByteArray), S, ⟨#[62]⟩]) = [60, 47] ++ S.data.toList ++ [62] := by simp [putL]
    have hbd : (readyW s').out.length + (putL [(⟨#[60, 47]⟩ : ByteArray), S, ⟨#[62]⟩]).length ≤ 140737488355328 := by
     have h1 := nameW_le HOK.out x HX.out.1 (by rw [HDN.out]; exact HX.out.2.1) HX.out.2.2.1
     have h2 := readyW_len s'
     have h3 := HL.out
     rw [hNW] at h1
     rw [hSl]
     simp only [List.length_append, List.length_cons, List.length_nil]
     omega
    have HBD := Lib.hid hbd
    have HSL := Lib.hid hSl
    have HNW := Lib.hid hNW
    clear hbd hSl hNW hS hm hnm hcell hoc hrc h1 hop1 hx1 hC1 hcell1 hsev
    go_region_held3 (fun W => W.cell? ⟨pb, 0, none⟩ = some (.func (.func 37) #[] #[.pointer (some ⟨b, 0, none⟩)]) ∧ W.cell? ⟨tr, 0, none⟩ = some (.slice (some an) nn cN) ∧ W.cell? ⟨tr, 1, none⟩ = some (.slice (some ae) n cD) ∧ W.cell? ⟨ob, 0, none⟩ = some (.slice (some ad) L c) ∧ W.cell? (ad.add M) = some (.int .i64 x) ∧ W.cell? ⟨(ae.add (x.toNat * 4)).block, (ae.add (x.toNat * 4)).off + 1, none⟩ = some (.int .i64 m) ∧ W.cell? (an.add m.toNat) = some (.string S)) (first | exact ⟨by assumption, by assumption, by assumption, by assumption, by assumption, by assumption, by assumption⟩ | go_keep) ((go_at_call 37; refine (putw_c (l := [(⟨#[60, 47]⟩ : ByteArray), S, ⟨#[62]⟩]) (HW1.out.below (zz8)) (zz45) (by simp) HBD.out).mono ?_; rintro e w2 ⟨rfl, h2, ht2⟩; have H2 := Lib.hid h2; have HT2 := Lib.hid (HT.out.trans (HT1.out.trans ((StayT.of_below (zz8)).trans ht2))); clear h2 ht2; obtain ⟨v1, v2, v3, v4, v5, v6, v7⟩ := HSEV.out w2 _ H2.out rfl))
    have hof2 := blk_frozen H2.out.oc 0
    have HST := Lib.hid (show ({ ({ readyW s' with out := (readyW s').out ++ putL [(⟨#[60, 47]⟩ : ByteArray), S, ⟨#[62]⟩] } : WS) with op := s'.op.take M } : WS) = popW N D s' by
     unfold popW
     rw [HHL.out.2.2.2.2, HNW.out, HSL.out, List.dropLast_eq_take, HHL.out.1]
     have : L - 1 = M := by omega
     rw [this])
    have h3 := H2.out.opens (Kd.R_take H2.out.ro (m := M) (by show M ≤ s'.op.length; omega))
    have h3 := HST.out ▸ h3
    have H3 := Lib.hid h3
    clear h3
    go_wp2
    go_roundw
    case rel => exact ⟨_, _, H3, HP, Lib.hid (popW_ok HO.out), HLP, Lib.hid (by have h1 := HLO.out; rw [popW_op, List.length_dropLast]; omega), Lib.hid (HT2.out.trans (StayT.set H2.out.oc (.inr rfl) 0 _))⟩
    case measure =>
     rw [H3.out.openN_, hmeas.out, popW_op, List.length_dropLast, HHL.out.1]
     omega
end Go.Proofs.YtlhhhlimjajnlaaGreat.X
end
section
set_option linter.unusedVariables false
set_option linter.unusedSimpArgs false
namespace Go.Proofs.YtlhhhlimjajnlaaGreat.X
open Go.RowKit Go.Maps Go.Proofs.YtlhhhlimjajnlaaGreat Go.Proofs.YtlhhhlimjajnlaaGreat.Q Go.Proofs.YtlhhhlimjajnlaaGreatW.PrintWords Go.Proofs.YtlhhhlimjajnlaaGreatW.PrintLast Go.Proofs.YtlhhhlimjajnlaaGreatW.PrintMore
attribute [local go_sem] max2_int min2_int max_two min_two   
theorem nodesC_named (nn : Nat) : ∀ (l : List Nod) (i : Nat) (s : CS), nodesC nn l i s ≠ none → ∀ x, x ∈ l → namedP nn x = true
 | [], _, _, _, x, hx => by cases hx
 | y :: r, i, s, h, x, hx => by
  unfold nodesC at h
  cases hs : stepC nn s i y with
  | none => rw [hs] at h; exact absurd rfl h
  | some s' =>
   rw [hs] at h
   rcases List.mem_cons.1 hx with rfl | hx
   ·unfold stepC at hs
    split at hs
    ·rename_i hc; exact hc.1
    ·cases hs
   ·exact nodesC_named nn r (i + 1) s' h x hx
theorem check_named {N : List ByteArray} {D : List Nod} (h : checkV N D = 0) : D.length ≤ 5000 ∧ N.length ≤ 1000 ∧ ∀ x, x ∈ D → namedP N.length x = true := by
 unfold checkV at h
 split at h
 ·cases h
 ·rename_i h0
  split at h
  ·cases h
  ·rename_i h1
   refine ⟨by omega, by omega, nodesC_named _ D 0 (zeroC D.length) ?_⟩
   intro e
   rw [e] at h1
   exact h1 rfl
theorem named_kind {nn : Nat} {x : Nod} (h : namedP nn x = true) : (x.f0 ≠ 3 → 0 ≤ x.f1 ∧ x.f1 < nn) ∧ (x.f0 = 1 ∨ x.f0 = 2 ∨ x.f0 = 3) := by
 unfold namedP at h
 split at h
 ·rename_i e; exact ⟨fun c => absurd e c, .inr (.inr e)⟩
 ·rw [Bool.and_eq_true, Bool.and_eq_true, decide_eq_true_eq, decide_eq_true_eq, Bool.or_eq_true, decide_eq_true_eq, Bool.and_eq_true, decide_eq_true_eq] at h
  refine ⟨fun _ => h.1, ?_⟩
  rcases h.2 with h | h
  ·exact .inr (.inl h)
  ·exact .inl h.1
theorem okN_of {N : List ByteArray} {D : List Nod} (h : checkV N D = 0) (h1 : ∀ x, x ∈ N → x.size ≤ 1000000000) (h2 : ∀ x, x ∈ D → x.f3.size ≤ 1000000000) : okN N D :=
 ⟨h1, h2, fun x hx hc => (named_kind ((check_named h).2.2 x hx)).1 hc⟩
structure WInv (D : List Nod) (i : Nat) (s : WS) : Prop where
 ok : okO D s
 len : s.out.length + 1100000000 * s.op.length ≤ 9000000000 * i
 op : s.op.length ≤ i
theorem closeW_inv {N : List ByteArray} {D : List Nod} (h : okN N D) (p : Int) {i : Nat} : ∀ (k : Nat) (s : WS), WInv D i s → WInv D i (closeW N D p k s)
 | 0, s, hs => hs
 | k + 1, s, hs => by
  unfold closeW
  split
  ·exact hs
  ·rename_i hc
   have hne : s.op ≠ [] := fun e => hc (.inl e)
   refine closeW_inv h p k _ ⟨popW_ok hs.ok, Nat.le_trans (popW_len h hs.ok hne) hs.len, ?_⟩
   rw [popW_op, List.length_dropLast]
   have := hs.op; omega
theorem escL_size {x : ByteArray} (h : x.size ≤ 1000000000) : (escL x.data.toList).length ≤ 6000000000 := by
 have := escL_len x.data.toList
 rw [Lib.size_eq] at h
 omega
theorem name_size {N : List ByteArray} {D : List Nod} (h : okN N D) {x : Nod} (hx : x ∈ D) (hk : x.f0 ≠ 3) : (N.getD x.f1.toNat ⟨#[]⟩).data.toList.length ≤ 1000000000 := by
 have hn := h.2.2 x hx hk
 have := h.1 _ (getD_memN (k := x.f1.toNat) (by omega))
 rw [Lib.size_eq] at this
 exact this
theorem nodeW_inv {N : List ByteArray} {D : List Nod} (h : okN N D) {i : Nat} {x : Nod} (hi : i < D.length) (hx : D.getD i xz = x) {s : WS} (hs : WInv D i s) : WInv D (i + 1) (nodeW N D i x s) := by
 have hm : x ∈ D := by rw [← hx]; exact getD_memD hi
 have hc := closeW_inv h x.f2 s.op.length s hs
 have he := escL_size (h.2.1 x hm)
 unfold nodeW
 simp only
 generalize closeW N D x.f2 s.op.length s = c at hc
 by_cases k2 : x.f0 = 2
 ·rw [if_pos k2]
  have hn := name_size h hm (by omega)
  refine ⟨hc.ok, ?_, Nat.le_succ_of_le hc.op⟩
  have := hc.len
  simp only [List.length_append, List.length_cons, List.length_nil]
  omega
 ·rw [if_neg k2]
  have hr := readyW_len c
  by_cases k3 : x.f0 = 3
  ·rw [if_pos k3]
   refine ⟨hc.ok, ?_, Nat.le_succ_of_le hc.op⟩
   have := hc.len
   have e : (readyW c).op = c.op := rfl
   simp only [List.length_append, e]
   omega
  ·rw [if_neg k3]
   have hn := name_size h hm k3
   have := hc.len
   have hop := hc.op
   have e : (readyW c).op = c.op := rfl
   refine ⟨?_, ?_, ?_⟩
   ·intro j hj
    rcases List.mem_append.1 hj with hj | hj
    ·exact hc.ok j hj
    ·rw [List.mem_singleton] at hj
     subst hj
     refine ⟨by omega, by omega, ?_⟩
     rw [Int.toNat_natCast, hx]; exact k3
   ·simp only [List.length_append, List.length_cons, List.length_nil, e]
    omega
   ·simp only [List.length_append, List.length_cons, List.length_nil, e]
    omega
section
variable {w0 W W1 W2 : World} {b pb gb ob rb tr : Nat} {vN vD vO u : Value} {s : WS} {ops : Array Oper} {o : Oper} {a : Act} {Q : Exit → Act → World → Prop}
theorem isB_grown {B : Nat} {out : List UInt8} (h : IsB B b out W) {v : Value} {l : List Int} {ok : Nat → Prop} (hr : Kd.R (Kd.int .i64) 3 W B ok v l) (hg : W.grownBy W1 v.ownBlock) : IsB B b out W1 := by
 have key : ∀ {q : Value} {bs : List Value}, Lib.BuilderAt 65 5 B b q bs W → Lib.BuilderAt 65 5 B b q bs W1 := by
  intro q bs h
  obtain ⟨a1, u, a2, a3, a4⟩ := h
  refine ⟨a1, u, blk_grown a2 hg (Kd.R_ne hr a2 (by decide)), ⟨a3.1, ?_⟩, a4⟩
  rcases a3.2 with h5 | ⟨k, cap, cur, e1, e2, e3, e4⟩
  ·exact .inl h5
  ·exact .inr ⟨k, cap, cur, e1, e2, blk_grown e3 hg (Kd.R_ne hr e3 (by decide)), e4⟩
 rcases h with h | h
 ·exact .inl (key h)
 ·exact .inr (key h)
theorem Ww.app (h : Ww w0 W b pb gb ob rb tr vN vD vO s) (hg : W.grownBy W1 vO.ownBlock) {l : List Int} (ho : Kd.R (Kd.int .i64) 3 W1 w0.heap.size (fun _ => True) u l) (hb : Below w0.heap.size w0 W1) : Ww w0 (W1.setCell ⟨ob, 0, none⟩ u) b pb gb ob rb tr vN vD u { s with op := l } := by
 have kp : ∀ {q t : Nat} {y : Array Value}, W.heap[q]? = some (.cells y t (0, 0)) → 3 ≠ t → W1.heap[q]? = some (.cells y t (0, 0)) := fun hq ht => blk_grown hq hg (Kd.R_ne h.ro hq ht)
 have ne : ∀ {q t : Nat} {y : Array Value}, W.heap[q]? = some (.cells y t (0, 0)) → t ≠ 47 → q ≠ ob := fun {q t y} hq ht e => by
  have h2 := h.oc
  rw [← e, hq] at h2
  injection h2 with h2
  injection h2 with _ h2
  exact ht h2
 have hob := kp h.oc (by decide)
 exact ⟨isB_set (isB_grown h.bd h.ro hg) hob (by decide) (by decide) _ _, blk_far (kp h.pc (by decide)) (ne h.pc (by decide)) _, blk_far (kp h.gc (by decide)) (ne h.gc (by decide)) _, blk_set hob 0 _, blk_far (kp h.rc (by decide)) (ne h.rc (by decide)) _, blk_far (kp h.tc (by decide)) (ne h.tc (by decide)) _, R_away_set ho rfl (Kd.R_ne ho hob (by decide)) 0 _, h.ggb, h.gob, hb.setCell h.gob _⟩
theorem Ww.list {rest : List Oper} (h : Ww w0 W b pb gb ob rb tr vN vD vO s) (hl : s.op.length ≤ 1000000) (x : Int) (p y : Operand) (hgd : o.guard = none)
 (ho : o.op = .call { callee := .builtin .append, args := #[p, y], argTypes := #[47, 47] }) (hs : a.eval p = vO) (hx : a.eval y = .slice (some ⟨W.heap.size, 0, none⟩) 1 1)
 (hW : W2 = W.alloc (.cells #[.int .i64 x] 3))
 (K : ∀ A1 c1 w1, Ww w0 (w1.setCell ⟨ob, 0, none⟩ (.slice A1 (s.op.length + 1) c1)) b pb gb ob rb tr vN vD (.slice A1 (s.op.length + 1) c1) { s with op := s.op ++ [x] } → w1.cell? ⟨ob, 0, none⟩ = some vO → w1.frozen? ⟨ob, 0, none⟩ = false → wpList Tryz.prog ops Q rest (a.put o.dst (.slice A1 (s.op.length + 1) c1)) w1) :
 wpList Tryz.prog ops Q (o :: rest) a W2 := by
 subst hW
 refine Kd.R_append (Kd.int .i64) (w0 := w0) w0.heap.size hgd p y 47 3 (.int .i64 0) 8 ho Tryz.underlying47 infoInt rfl (by decide) (by omega) vO s.op x [.int .i64 x] (fun _ => True) (fun _ => False) hs hx rfl (fun _ hk => hk.elim) (fun _ _ => trivial) h.ro h.bel h.bel.size (by omega) ?_
 intro u w1 ho1 hb hg hat
 have hB := h.app hg ho1 hb
 have hk1 := blk_grown h.oc hg (Kd.R_ne h.ro h.oc (by decide))
 obtain ⟨A1, c1, rfl, -, -⟩ := Kd.R_reads ho1
 rw [show (s.op ++ [x]).length = s.op.length + 1 from by simp] at hB ⊢
 exact K A1 c1 w1 hB ((blk_cell hk1 0).trans rfl) (blk_frozen hk1 0)
end
end Go.Proofs.YtlhhhlimjajnlaaGreat.X
end
section
set_option linter.unusedVariables false
set_option linter.unusedSimpArgs false
namespace Go.Proofs.YtlhhhlimjajnlaaGreat.X
open Go.RowKit Go.Proofs.YtlhhhlimjajnlaaGreat Go.Proofs.YtlhhhlimjajnlaaGreat.Q Go.Proofs.YtlhhhlimjajnlaaGreatW.PrintWords Go.Proofs.YtlhhhlimjajnlaaGreatW.PrintLast Go.Proofs.YtlhhhlimjajnlaaGreatW.PrintMore
def smallC (N : List ByteArray) (D : List Nod) : Bool := (D.all fun x => decide (x.f3.size ≤ 4294967280)) && (N.all fun x => decide (x.size ≤ 4294967280))
def canon_Check.f (a0_0 : List ByteArray) (a0_1 : List Nod) : Option Int := if smallC a0_0 a0_1 = true then some (checkV a0_0 a0_1) else none
theorem canon_Check.calls (A0_0 : Option Addr) (c0_0 : Nat) (l0_0 : List ByteArray) (A0_1 : Option Addr) (c0_1 : Nat) (l0_1 : List Nod) (r : Int) (w : World) (hr0_0 : Kd.C Kd.string w A0_0 l0_0.length l0_0) (hc0_0 : l0_0.length ≤ c0_0) (hr0_1 : Kd.C k41 w A0_1 l0_1.length l0_1) (hc0_1 : l0_1.length ≤ c0_1) (h : canon_Check.f l0_0 l0_1 = some r) :
 Calls Tryz.prog 19 #[.agg #[.slice A0_0 l0_0.length c0_0, .slice A0_1 l0_1.length c0_1]] w fun e w' => e = .returned (.int .i64 r) ∧ Below w.heap.size w w' := by
 unfold canon_Check.f at h
 split at h
 ·rename_i hs
  obtain rfl := Option.some.inj h
  unfold smallC at hs
  rw [Bool.and_eq_true, List.all_eq_true, List.all_eq_true] at hs
  exact check_all hr0_0 hr0_1 (fun x hx => of_decide_eq_true (hs.1 x hx)) (fun x hx => of_decide_eq_true (hs.2 x hx))
 ·cases h
end Go.Proofs.YtlhhhlimjajnlaaGreat.X
end
