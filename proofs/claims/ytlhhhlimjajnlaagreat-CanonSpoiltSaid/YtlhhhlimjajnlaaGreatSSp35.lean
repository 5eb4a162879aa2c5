/- Parts of the proof of canonSpoilt_holds, kept and merged by a program of mine (wip/tools/slim.py) out of my texts: RWi RLm -/
import Derived.Test.YtlhhhlimjajnlaaGreatSSp0
import Derived.Deep.RegionHeld3
import Derived.Test.YtlhhhlimjajnlaaGreatSSp12
import Derived.Test.YtlhhhlimjajnlaaGreatSSp24
import Derived.Test.YtlhhhlimjajnlaaGreatSSp17
section
set_option linter.unusedVariables false
set_option linter.unusedSimpArgs false
namespace Go.Proofs.YtlhhhlimjajnlaaGreat.X
open Go.RowKit Go.Proofs.YtlhhhlimjajnlaaGreat Go.Proofs.YtlhhhlimjajnlaaGreat.Q Go.Proofs.YtlhhhlimjajnlaaGreatW.PrintWords Go.Proofs.YtlhhhlimjajnlaaGreatW.PrintLast Go.Proofs.YtlhhhlimjajnlaaGreatW.PrintMore
attribute [local go_sem] str_gtr   
section
variable {ops : Array Oper} {rest : List Oper} {o : Oper} {a : Act} {Q : Exit → Act → World → Prop} {w0 W W2 : World} {v : Value}
theorem app_s {xs : List ByteArray} (x : ByteArray) (s y : Operand) (hgd : o.guard = none) (ho : o.op = .call { callee := .builtin .append, args := #[s, y], argTypes := #[24, 24] }) (hs : a.eval s = v)
 (hW : W2 = W.alloc (.cells #[.string x] 9)) (HO : Kd.R Kd.string 9 W w0.heap.size (fun _ => True) v xs) (HB : Below w0.heap.size w0 W) (hl : xs.length ≤ 1000000)
 (h : ∀ v1 w1, Kd.R Kd.string 9 w1 w0.heap.size (fun _ => True) v1 (xs ++ [x]) → Below w0.heap.size w0 w1 → W.grownBy w1 v.ownBlock → wpList Tryz.prog ops Q rest (a.put o.dst v1) w1) (hy : a.eval y = .slice (some ⟨W.heap.size, 0, none⟩) 1 1 := by first | rfl | exact congrArg (fun n => Value.slice (some ⟨n, 0, none⟩) 1 1) (by simp)) : wpList Tryz.prog ops Q (o :: rest) a W2 := by
 subst hW
 exact Kd.R_append Kd.string (w0 := w0) w0.heap.size hgd s y 24 9 (.string ⟨#[]⟩) 16 ho Tryz.underlying24 info9 rfl (by decide) (by omega) v xs x [.string x] (fun _ => True) (fun _ => False) hs hy rfl (fun _ hk => hk.elim) (fun _ _ => trivial) HO HB HB.size (by omega) fun v1 w1 h1 h2 h3 _ => h v1 w1 h1 h2 h3
end
def withL (A : List ByteArray) (s : ByteArray) : List ByteArray → List ByteArray → Bool → List ByteArray
 | [], X, p => if p = true then X else X ++ [s]
 | a :: r, X, p => if a.data.toList = s.data.toList then A else if p = false ∧ s.data.toList < a.data.toList then withL A s r (X ++ [s] ++ [a]) true else withL A s r (X ++ [a]) p
theorem drop_cons {α : Type} {l : List α} {i : Nat} (h : i < l.length) (d : α) : l.drop i = l.getD i d :: l.drop (i + 1) := by
 rw [List.drop_eq_getElem_cons h, List.getD_eq_getElem?_getD, List.getElem?_eq_getElem h]; rfl
set_option maxHeartbeats 8000000 in
set_option maxRecDepth 100000 in
theorem with_c {l : List ByteArray} {n c : Nat} (hn : l.length = n) (hl : n ≤ 400000) (s : ByteArray) {w : World} {A : Option Addr} (hC : Kd.C Kd.string w A n l) :
 Calls Tryz.prog 68 #[.slice A n c, .string s] w fun e w' => ∃ v, e = .returned v ∧ ((v = .slice A n c ∧ withL l s l [] false = l) ∨ Kd.R Kd.string 9 w' w.heap.size (fun _ => True) v (withL l s l [] false)) ∧ Below w.heap.size w w' := by
 obtain ⟨R, hR⟩ : ∃ R, withL l s l [] false = R := ⟨_, rfl⟩
 rw [hR]
 have HN := Lib.hid hn
 have HC := Lib.hid hC
 have HR := Lib.hid (show withL l s (l.drop 0) [] false = R from hR)
 clear hR hC hn
 go_enter Tryz.func68, Tryz.ntmps68
 go_wp2
 go_loopw [5, 6, 7] (fun v5 v6 v7 wr => ∃ (X : List ByteArray) (p : Bool) (i : Nat), i ≤ n ∧ v6 = .bool p ∧ v7 = .int .i64 i ∧ Hid (X.length ≤ 2 * i) ∧ Hid (withL l s (l.drop i) X p = R) ∧ Hid (Kd.R Kd.string 9 wr w.heap.size (fun _ => True) v5 X) ∧ Hid (Below w.heap.size w wr)) (fun v5 v6 v7 wr => n - (intOf v7).toNat)
 case atStart => exact ⟨[], false, 0, by omega, rfl, rfl, Lib.hid (by simp), HR, Lib.hid (Kd.R_nil _ _ _ _ _), Lib.hid (Below.refl _ _)⟩
 case round =>
  clear HR
  obtain ⟨X, p, i, hi, rfl, rfl, HX, HR, HO, HB⟩ := hrel
  by_cases hlt : i < n
  ·have hil : i < l.length := by have := HN.out; omega
   obtain ⟨ad, hA, r0⟩ := Kd.at_string HC.out (i : Int) (by omega) (by omega)
   subst hA
   have hrd : rdOf ByteArray.empty l (i : Int) = l.getD i ByteArray.empty := rfl
   rw [hrd, Int.toNat_natCast] at r0
   have hd := drop_cons hil ByteArray.empty
   obtain ⟨x, hx⟩ : ∃ x, l.getD i ByteArray.empty = x := ⟨_, rfl⟩
   rw [hx] at r0 hd
   have hres := HR.out
   rw [hd] at hres
   unfold withL at hres
   have p1 : ((0 : Int) ≤ (i : Int)) = True := eq_true (by omega)
   have p2 : ((i : Int) < (n : Int)) = True := eq_true (by omega)
   have e1 : IntKind.i64.wrap ((i : Int) + 1) = ((i + 1 : Nat) : Int) := zz15
   have HLT := Lib.hid hlt
   have RW := Lib.hid r0
   replace r0 := (HB.out.cell (World.block_lt_of_cell? w _ r0)).trans r0
   clear HR hx hrd hd hil
   by_cases c : x.data.toList = s.data.toList
   ·have q1 : (x.toList == s.toList) = true := by rw [Lib.toList_data, Lib.toList_data, c]; simp
    rw [if_pos c] at hres
    have HS := Lib.hid hres
    clear c hres
    go_wp2
    go_ret
    exact ⟨_, rfl, .inl ⟨rfl, HS.out.symm⟩, HB.out⟩
   have q1 : (x.toList == s.toList) = false := by rw [Lib.toList_data, Lib.toList_data]; simpa using c
   rw [if_neg c] at hres
   clear c
   have hmeas : n - (i + 1) < n - i := by omega
   cases p with
   | true =>
    rw [if_neg (fun e => by cases e.1)] at hres
    have HS := Lib.hid hres
    clear hres
    go_wp2_with (at_builtin; refine app_s x (.tmp 35) (.tmp 40) rfl rfl rfl rfl HO.out HB.out (by have := HX.out; omega) ?_; intro v1 w1 ho1 hb1 _; have HO1 := Lib.hid ho1; have HB1 := Lib.hid hb1; clear ho1 hb1)
    go_roundw
    case rel => exact ⟨X ++ [x], true, i + 1, by omega, rfl, by first | rfl | go_num, Lib.hid (by have := HX.out; rw [List.length_append, List.length_singleton]; omega), HS, HO1, HB1⟩
    case measure => simp [intOf]; omega
   | false =>
    by_cases c2 : s.data.toList < x.data.toList
    ·rw [if_pos ⟨rfl, c2⟩] at hres
     have q2 : Op.bytesLess s.toList x.toList = true := by rw [Lib.toList_data, Lib.toList_data, Go.Proofs.bytesLess_eq]; simpa using c2
     have HS := Lib.hid hres
     clear hres c2
     go_wp2_with (first | (at_builtin; refine app_s s (.tmp 31) (.tmp 33) rfl rfl rfl rfl HO.out HB.out (by have := HX.out; omega) ?_; intro v1 w1 ho1 hb1 _; have r1 := (hb1.cell (World.block_lt_of_cell? w _ RW.out)).trans RW.out; have HO1 := Lib.hid ho1; have HB1 := Lib.hid hb1; clear ho1 hb1) | (at_builtin; refine app_s x (.tmp 35) (.tmp 40) rfl rfl rfl rfl HO1.out HB1.out (by have := HX.out; rw [List.length_append, List.length_singleton]; omega) ?_; intro v2 w2 ho2 hb2 _; have HO2 := Lib.hid ho2; have HB2 := Lib.hid hb2; clear ho2 hb2))
     go_roundw
     case rel => exact ⟨X ++ [s] ++ [x], true, i + 1, by omega, rfl, by first | rfl | go_num, Lib.hid (by have := HX.out; simp only [List.length_append, List.length_cons, List.length_nil]; omega), HS, HO2, HB2⟩
     case measure => simp [intOf]; omega
    ·rw [if_neg (fun e => c2 e.2)] at hres
     have q2 : Op.bytesLess s.toList x.toList = false := by rw [Lib.toList_data, Lib.toList_data, Go.Proofs.bytesLess_eq]; simpa using c2
     have HS := Lib.hid hres
     clear hres c2
     go_wp2_with (at_builtin; refine app_s x (.tmp 35) (.tmp 40) rfl rfl rfl rfl HO.out HB.out (by have := HX.out; omega) ?_; intro v1 w1 ho1 hb1 _; have HO1 := Lib.hid ho1; have HB1 := Lib.hid hb1; clear ho1 hb1)
     go_roundw
     case rel => exact ⟨X ++ [x], false, i + 1, by omega, rfl, by first | rfl | go_num, Lib.hid (by have := HX.out; rw [List.length_append, List.length_singleton]; omega), HS, HO1, HB1⟩
     case measure => simp [intOf]; omega
  ·have hin : i = n := by omega
   subst hin
   have hres := HR.out
   rw [List.drop_eq_nil_of_le (by have := HN.out; omega)] at hres
   unfold withL at hres
   have p2 : ((i : Int) < (i : Int)) = False := eq_false (by omega)
   clear HR
   cases p with
   | true =>
    rw [if_pos rfl] at hres
    subst hres
    go_wp2
    go_ret
    exact ⟨_, rfl, .inr HO.out, HB.out⟩
   | false =>
    rw [if_neg (by decide)] at hres
    subst hres
    go_wp2_with (at_builtin; refine app_s s (.tmp 44) (.tmp 46) rfl rfl rfl rfl HO.out HB.out (by have := HX.out; omega) ?_; intro v1 w1 ho1 hb1 _; have HO1 := Lib.hid ho1; have HB1 := Lib.hid hb1; clear ho1 hb1)
    go_ret
    exact ⟨_, rfl, .inr HO1.out, HB1.out⟩
end Go.Proofs.YtlhhhlimjajnlaaGreat.X
end
section
set_option linter.unusedVariables false
set_option linter.unusedSimpArgs false
namespace Go.Proofs.YtlhhhlimjajnlaaGreat.X
open Go.RowKit Go.Proofs.YtlhhhlimjajnlaaGreat Go.Proofs.YtlhhhlimjajnlaaGreat.Q Go.Proofs.YtlhhhlimjajnlaaGreatW.PrintWords Go.Proofs.YtlhhhlimjajnlaaGreatW.PrintLast Go.Proofs.YtlhhhlimjajnlaaGreatW.PrintMore
attribute [local go_sem] max2_int min2_int max_two min_two   
def numL (s : ByteArray) : List ByteArray → Nat → Int
 | [], _ => -1
 | a :: r, i => if a.data.toList = s.data.toList then (i : Int) else numL s r (i + 1)
set_option maxHeartbeats 8000000 in
set_option maxRecDepth 100000 in
theorem numref_c {l : List ByteArray} {n c : Nat} (hn : l.length = n) (hl : n ≤ 400000) (s : ByteArray) {w : World} {A : Option Addr} (hC : Kd.C Kd.string w A n l) :
 Calls Tryz.prog 69 #[.slice A n c, .string s] w fun e w' => e = .returned (.int .i64 (numL s l 0)) ∧ Below w.heap.size w w' := by
 obtain ⟨R, hR⟩ : ∃ R, numL s l 0 = R := ⟨_, rfl⟩
 rw [hR]
 have HN := Lib.hid hn
 have HC := Lib.hid hC
 have HR := Lib.hid (show numL s (l.drop 0) 0 = R from hR)
 clear hR hC hn
 go_enter Tryz.func69, Tryz.ntmps69
 go_wp2
 go_loopw [5] (fun v5 wr => ∃ (i : Nat), i ≤ n ∧ v5 = .int .i64 i ∧ Hid (numL s (l.drop i) i = R) ∧ Hid (Below w.heap.size w wr)) (fun v5 wr => n - (intOf v5).toNat)
 case atStart => exact ⟨0, by omega, rfl, HR, Lib.hid (Below.refl _ _)⟩
 case round =>
  clear HR
  obtain ⟨i, hi, rfl, HR, HB⟩ := hrel
  by_cases hlt : i < n
  ·have hil : i < l.length := by have := HN.out; omega
   obtain ⟨ad, hA, r0⟩ := Kd.at_string HC.out (i : Int) (by omega) (by omega)
   subst hA
   have hrd : rdOf ByteArray.empty l (i : Int) = l.getD i ByteArray.empty := rfl
   rw [hrd, Int.toNat_natCast] at r0
   have hd := drop_cons hil ByteArray.empty
   obtain ⟨x, hx⟩ : ∃ x, l.getD i ByteArray.empty = x := ⟨_, rfl⟩
   rw [hx] at r0 hd
   have hres := HR.out
   rw [hd] at hres
   unfold numL at hres
   have p1 : ((0 : Int) ≤ (i : Int)) = True := eq_true (by omega)
   have p2 : ((i : Int) < (n : Int)) = True := eq_true (by omega)
   have e1 : IntKind.i64.wrap ((i : Int) + 1) = ((i + 1 : Nat) : Int) := zz15
   replace r0 := (HB.out.cell (World.block_lt_of_cell? w _ r0)).trans r0
   clear HR hx hrd hd hil
   by_cases c : x.data.toList = s.data.toList
   ·have q1 : (x.toList == s.toList) = true := by rw [Lib.toList_data, Lib.toList_data, c]; simp
    rw [if_pos c] at hres
    have HS := Lib.hid hres
    clear c hres
    go_wp2
    go_ret
    exact ⟨by first | rfl | (rw [← HS.out]; rfl), HB.out⟩
   have q1 : (x.toList == s.toList) = false := by rw [Lib.toList_data, Lib.toList_data]; simpa using c
   rw [if_neg c] at hres
   have HS := Lib.hid hres
   clear c hres
   go_wp2
   go_roundw
   case rel => exact ⟨i + 1, by omega, by first | rfl | go_num, HS, HB⟩
   case measure => simp [intOf]; omega
  ·have hin : i = n := by omega
   subst hin
   have hres := HR.out
   rw [List.drop_eq_nil_of_le (by have := HN.out; omega)] at hres
   have p2 : ((i : Int) < (i : Int)) = False := eq_false (by omega)
   clear HR
   go_wp2
   go_ret
   exact ⟨by rw [← hres]; rfl, HB.out⟩
section
variable {w0 W W1 : World} {g2 g4 : Nat} {v5 vN vD v1 : Value} {dl dl' : List Int} {A A' : List ByteArray} {T T' : List Nod}
structure Lm (w0 W : World) (g2 g4 : Nat) (v5 vN vD : Value) (dl : List Int) (A : List ByteArray) (T : List Nod) : Prop where
 b2 : W.heap[g2]? = some (.cells #[.slice none 0 0, .slice none 0 0] 27 (0, 0))
 b4 : W.heap[g4]? = some (.cells #[vN, vD] 27 (0, 0))
 rd : Kd.R (Kd.int .i64) 3 W w0.heap.size (fun _ => True) v5 dl
 rn : Kd.R Kd.string 9 W w0.heap.size (fun _ => True) vN A
 rt : Kd.R k41 41 W w0.heap.size (fun _ => True) vD T
 bel : Below w0.heap.size w0 W
 l2 : w0.heap.size ≤ g2
 l4 : w0.heap.size ≤ g4
 ne : g2 ≠ g4
theorem Lm.step (h : Lm w0 W g2 g4 v5 vN vD dl A T) (hb : Below W.heap.size W W1) : Lm w0 W1 g2 g4 v5 vN vD dl A T :=
 ⟨blk_below h.b2 hb, blk_below h.b4 hb, Kd.R_below h.rd hb, Kd.R_below h.rn hb, Kd.R_below h.rt hb, below_step h.bel hb, h.l2, h.l4, h.ne⟩
theorem Lm.alloc (h : Lm w0 W g2 g4 v5 vN vD dl A T) (o : Obj) : Lm w0 (W.alloc o) g2 g4 v5 vN vD dl A T := h.step (below_alloc (Below.refl _ _) o)
theorem Lm.drewN (h : Lm w0 W g2 g4 v5 vN vD dl A T) (n : Nat) : Lm w0 (W.drewN n) g2 g4 v5 vN vD dl A T := h.step (pw_below_drewN (Below.refl _ _) n)
theorem Lm.drew (h : Lm w0 W g2 g4 v5 vN vD dl A T) : Lm w0 W.drew g2 g4 v5 vN vD dl A T := h.step (below_drew (Below.refl _ _))
theorem Lm.dep (h : Lm w0 W g2 g4 v5 vN vD dl A T) (hr : Kd.R (Kd.int .i64) 3 W1 w0.heap.size (fun _ => True) v1 dl') (hb : Below w0.heap.size w0 W1) (hg : W.grownBy W1 v5.ownBlock) : Lm w0 W1 g2 g4 v1 vN vD dl' A T :=
 ⟨blk_grown h.b2 hg (Kd.R_ne h.rd h.b2 (by decide)), blk_grown h.b4 hg (Kd.R_ne h.rd h.b4 (by decide)), hr, Kd.R_over h.rn h.rd (by decide) hg, Kd.R_over h.rt h.rd (by decide) hg, hb, h.l2, h.l4, h.ne⟩
theorem Lm.setN (h : Lm w0 W g2 g4 v5 vN vD dl A T) (hr : Kd.R Kd.string 9 W w0.heap.size (fun _ => True) v1 A') : Lm w0 (W.setCell ⟨g4, 0, none⟩ v1) g2 g4 v5 v1 vD dl A' T :=
 ⟨blk_far h.b2 h.ne _, blk_set h.b4 0 v1, Kd.R_set h.rd h.b4 (by decide) 0 _, Kd.R_set hr h.b4 (by decide) 0 _, Kd.R_set h.rt h.b4 (by decide) 0 _, h.bel.setCell h.l4 _, h.l2, h.l4, h.ne⟩
theorem Lm.tree (h : Lm w0 W g2 g4 v5 vN vD dl A T) (hr : Kd.R k41 41 W1 w0.heap.size (fun _ => True) v1 T') (hb : Below w0.heap.size w0 W1) (hg : W.grownBy W1 vD.ownBlock) : Lm w0 (W1.setCell ⟨g4, 1, none⟩ v1) g2 g4 v5 vN v1 dl A T' := by
 have b4 := blk_grown h.b4 hg (Kd.R_ne h.rt h.b4 (by decide))
 exact ⟨blk_far (blk_grown h.b2 hg (Kd.R_ne h.rt h.b2 (by decide))) h.ne _, blk_set b4 1 v1, Kd.R_set (Kd.R_over h.rd h.rt (by decide) hg) b4 (by decide) 1 _, Kd.R_set (Kd.R_over h.rn h.rt (by decide) hg) b4 (by decide) 1 _, Kd.R_set hr b4 (by decide) 1 _, hb.setCell h.l4 _, h.l2, h.l4, h.ne⟩
end
section
variable {ops : Array Oper} {rest : List Oper} {o : Oper} {a : Act} {Q : Exit → Act → World → Prop} {w0 W W2 : World} {v : Value}
theorem app_i {xs : List Int} (x : Int) (s y : Operand) (hgd : o.guard = none) (ho : o.op = .call { callee := .builtin .append, args := #[s, y], argTypes := #[47, 47] }) (hs : a.eval s = v)
 (hW : W2 = W.alloc (.cells #[.int .i64 x] 3)) (HO : Kd.R (Kd.int .i64) 3 W w0.heap.size (fun _ => True) v xs) (HB : Below w0.heap.size w0 W) (hl : xs.length ≤ 1000000)
 (h : ∀ v1 w1, Kd.R (Kd.int .i64) 3 w1 w0.heap.size (fun _ => True) v1 (xs ++ [x]) → Below w0.heap.size w0 w1 → W.grownBy w1 v.ownBlock → wpList Tryz.prog ops Q rest (a.put o.dst v1) w1) (hy : a.eval y = .slice (some ⟨W.heap.size, 0, none⟩) 1 1 := by first | rfl | exact congrArg (fun n => Value.slice (some ⟨n, 0, none⟩) 1 1) (by simp)) : wpList Tryz.prog ops Q (o :: rest) a W2 := by
 subst hW
 exact Kd.R_append (Kd.int .i64) (w0 := w0) w0.heap.size hgd s y 47 3 (.int .i64 0) 8 ho Tryz.underlying47 info3 rfl (by decide) (by omega) v xs x [.int .i64 x] (fun _ => True) (fun _ => False) hs hy rfl (fun _ hk => hk.elim) (fun _ _ => trivial) HO HB HB.size (by omega) fun v1 w1 h1 h2 h3 _ => h v1 w1 h1 h2 h3
theorem app_n {xs : List Nod} (x : Nod) (s y : Operand) (hgd : o.guard = none) (ho : o.op = .call { callee := .builtin .append, args := #[s, y], argTypes := #[25, 25] }) (hs : a.eval s = v)
 (hW : W2 = W.alloc (.cells #[.int .i64 x.f0, .int .i64 x.f1, .int .i64 x.f2, .string x.f3] 41)) (HO : Kd.R k41 41 W w0.heap.size (fun _ => True) v xs) (HB : Below w0.heap.size w0 W) (hl : xs.length ≤ 1000000)
 (h : ∀ v1 w1, Kd.R k41 41 w1 w0.heap.size (fun _ => True) v1 (xs ++ [x]) → Below w0.heap.size w0 w1 → W.grownBy w1 v.ownBlock → wpList Tryz.prog ops Q rest (a.put o.dst v1) w1) (hy : a.eval y = .slice (some ⟨W.heap.size, 0, none⟩) 1 1 := by first | rfl | exact congrArg (fun n => Value.slice (some ⟨n, 0, none⟩) 1 1) (by simp)) : wpList Tryz.prog ops Q (o :: rest) a W2 := by
 subst hW
 exact Kd.R_append k41 (w0 := w0) w0.heap.size hgd s y 25 41 (.agg #[.int .i64 0, .int .i64 0, .int .i64 0, .string ⟨#[]⟩]) 40 ho Tryz.underlying25 info41 rfl (by decide) (by omega) v xs x [.int .i64 x.f0, .int .i64 x.f1, .int .i64 x.f2, .string x.f3] (fun _ => True) (fun _ => False) hs hy (k41_mkM _ _ _ x) (fun _ hk => hk.elim) (fun _ _ => trivial) HO HB HB.size (by omega) fun v1 w1 h1 h2 h3 _ => h v1 w1 h1 h2 h3
end
abbrev Nm1 := S104
abbrev zm : Nm1 := z104
def depL (dl : List Int) (z : Nm1) : Int := if 0 ≤ z.f0.f2 then dl.getD z.f0.f2.toNat 0 + 1 else 0
def nmsL (A : List ByteArray) (z : Nm1) : List ByteArray := if z.f0.f0 = 3 then A else withL A z.f1 A [] false
def lim0 : List Nm1 → List Int → List ByteArray → Option (List ByteArray)
 | [], dl, A => some A
 | z :: r, dl, A => if z.f0.f0 = 1 ∧ 64 < depL dl z then none else lim0 r (dl ++ [depL dl z]) (nmsL A z)
def nodL (A : List ByteArray) (z : Nm1) : Nod := if z.f0.f0 = 3 then z.f0 else ⟨z.f0.f0, numL z.f1 A 0, z.f0.f2, z.f0.f3⟩
def limT (Z : List Nm1) : List ByteArray × List Nod × Int :=
 if 5000 < Z.length then ([], [], 18) else match lim0 Z [] [] with
  | none => ([], [], 18)
  | some A => if 1000 < A.length then ([], [], 18) else (A, Z.map (nodL A), 0)
theorem withL_len (A : List ByteArray) (s : ByteArray) : ∀ (r X : List ByteArray) (p : Bool), A.length ≤ X.length + r.length → X.length + r.length ≤ A.length + (if p = true then 1 else 0) → (withL A s r X p).length ≤ A.length + 1
 | [], X, p, h1, h2 => by
  unfold withL
  split
  ·split at h2 <;> simp at h2 <;> omega
  ·rename_i c; rw [if_neg c] at h2; rw [List.length_append, List.length_singleton]; simp at h2; omega
 | a :: r, X, p, h1, h2 => by
  unfold withL
  split
  ·omega
  split
  ·rename_i c
   rw [c.1] at h2
   refine withL_len A s r _ true ?_ ?_ <;> simp only [List.length_append, List.length_cons, List.length_nil] at * <;> simp at * <;> omega
  ·refine withL_len A s r _ p ?_ ?_ <;> simp only [List.length_append, List.length_cons, List.length_nil] at * <;> omega
theorem nmsL_len (A : List ByteArray) (z : Nm1) : (nmsL A z).length ≤ A.length + 1 := by
 unfold nmsL
 split
 ·omega
 ·exact withL_len A z.f1 A [] false (by simp) (by simp)
section
variable {Z : List Nm1} {n c : Nat} {w : World} {A : Option Addr}
set_option maxHeartbeats 8000000 in
set_option maxRecDepth 100000 in
theorem limited_c (hn : Z.length = n) (hC : Kd.C k104 w A n Z) (hlow : ∀ i, i < n → (Z.getD i zm).f0.f2 < i) :
 Calls Tryz.prog 36 #[.slice A n c] w fun e w' => ∃ v0 v1, e = .returned (.tuple #[.agg #[v0, v1], .int .i64 (limT Z).2.2]) ∧ Kd.R Kd.string 9 w' w.heap.size (fun _ => True) v0 (limT Z).1 ∧ Kd.R k41 41 w' w.heap.size (fun _ => True) v1 (limT Z).2.1 ∧ Below w.heap.size w w' := by
 by_cases hbig : 5000 < n
 ·have e : limT Z = ([], [], 18) := by unfold limT; rw [if_pos (by omega)]
  rw [e]
  have p1 : ((5000 : Int) < (n : Int)) = True := eq_true (by omega)
  go_enter Tryz.func36, Tryz.ntmps36
  go_wp2
  refine bodyPost_ret (results_ct rfl _ _ w.heap.size 27 #[.slice none 0 0, .slice none 0 0] (0, 0) _ rfl (blk_new w _) Tryz.underlying27 rfl (by kernel_rfl)) rfl ?_
  exact ⟨_, _, rfl, Kd.R_nil _ _ _ _ _, Kd.R_nil _ _ _ _ _, by first | exact below_alloc (Below.refl _ _) _ | exact (below_alloc (Below.refl _ _) _).setCell (Nat.le_refl _) _ | exact ((below_alloc (Below.refl _ _) _).setCell (Nat.le_refl _) _).setCell (Nat.le_refl _) _⟩
 have p0 : ((5000 : Int) < (n : Int)) = False := eq_false (by omega)
 obtain ⟨R, hR⟩ : ∃ R, limT Z = R := ⟨_, rfl⟩
 obtain ⟨L, hL⟩ : ∃ L, lim0 Z [] [] = L := ⟨_, rfl⟩
 rw [hR]
 unfold limT at hR
 rw [if_neg (by omega), hL] at hR
 have HN := Lib.hid hn
 have HC := Lib.hid hC
 have HR := Lib.hid hR
 have HL := Lib.hid (show lim0 (Z.drop 0) [] [] = L from hL)
 have HLOW := Lib.hid hlow
 clear hR hC hn hL hlow
 go_enter Tryz.func36, Tryz.ntmps36
 go_wp2
 have H0 : Lm w ((w.alloc (.cells #[.slice none 0 0, .slice none 0 0] 27)).alloc (.cells #[.slice none 0 0, .slice none 0 0] 27)) w.heap.size (w.heap.size + 1) (.slice none 0 0) (.slice none 0 0) (.slice none 0 0) [] [] [] :=
  ⟨blk_alloc (blk_new w _) _, by have hbn := blk_new (w.alloc (.cells #[.slice none 0 0, .slice none 0 0] 27)) (.cells #[.slice none 0 0, .slice none 0 0] 27); simpa using hbn, Kd.R_nil _ _ _ _ _, Kd.R_nil _ _ _ _ _, Kd.R_nil _ _ _ _ _, below_alloc (below_alloc (Below.refl _ _) _) _, Nat.le_refl _, by omega, by omega⟩
 obtain ⟨g2, hg2⟩ : ∃ g2, w.heap.size = g2 := ⟨_, rfl⟩
 obtain ⟨g4, hg4⟩ : ∃ g4, w.heap.size + 1 = g4 := ⟨_, rfl⟩
 rw [hg4] at H0 ⊢
 have HZ : Hid (Lm w ((w.alloc (.cells #[.slice none 0 0, .slice none 0 0] 27)).alloc (.cells #[.slice none 0 0, .slice none 0 0] 27)) w.heap.size g4 (.slice none 0 0) (.slice none 0 0) (.slice none 0 0) [] [] []) := Lib.hid H0
 clear H0 hg4 hg2
 go_loopw [5, 6] (fun v5 v6 wr => ∃ (vN : Value) (dl : List Int) (A : List ByteArray) (i : Nat), i ≤ n ∧ v6 = .int .i64 i ∧ Hid (dl.length = i ∧ A.length ≤ i ∧ ∀ z, z ∈ dl → 0 ≤ z ∧ z ≤ i) ∧ Hid (lim0 (Z.drop i) dl A = L) ∧ Hid (Lm w wr w.heap.size g4 v5 vN (.slice none 0 0) dl A [])) (fun v5 v6 wr => n - (intOf v6).toNat)
 case atStart => exact ⟨_, [], [], 0, by omega, rfl, Lib.hid ⟨rfl, Nat.le_refl _, fun z hz => by cases hz⟩, HL, HZ⟩
 case round =>
  clear HL HZ
  obtain ⟨vN, dl, A1, i, hi, rfl, HD, HL, HM⟩ := hrel
  by_cases hlt : i < n
  ·have hil : i < Z.length := by have := HN.out; omega
   obtain ⟨ad, hA, r0, r1, r2, r3, r4⟩ := at_T104 (Kd.C_below HC.out HM.out.bel) (i : Int) (by omega) (by omega)
   subst hA
   have hrd : rd_T104 Z (i : Int) = Z.getD i zm := rfl
   rw [hrd, Int.toNat_natCast] at r0 r1 r2 r3 r4
   have hd := drop_cons hil zm
   have hlo := HLOW.out i hlt
   obtain ⟨z, hz⟩ : ∃ z, Z.getD i zm = z := ⟨_, rfl⟩
   rw [hz] at r0 r1 r2 r3 r4 hd hlo
   have hres := HL.out
   rw [hd] at hres
   unfold lim0 at hres
   have p1 : ((0 : Int) ≤ (i : Int)) = True := eq_true (by omega)
   have p2 : ((i : Int) < (n : Int)) = True := eq_true (by omega)
   have e1 : IntKind.i64.wrap ((i : Int) + 1) = ((i + 1 : Nat) : Int) := zz15
   have HRES := Lib.hid hres
   clear HL hz hrd hd hil hres
   obtain ⟨d1, d2, d3⟩ := HD.out
   obtain ⟨A5, c5, rfl⟩ := Kd.R_slice HM.out.rd
   obtain ⟨A6, c6, rfl⟩ := Kd.R_slice HM.out.rn
   obtain ⟨-, -, k6⟩ := Kd.R_reads' HM.out.rn
   have K6 := Lib.hid k6
   obtain ⟨dv, hdv⟩ : ∃ dv, depL dl z = dv := ⟨_, rfl⟩
   have hd0 : 0 ≤ dv ∧ dv ≤ i + 1 ∧ (((((0 : Int) ≤ z.f0.f2) = True) ∧ ((z.f0.f2 < (i : Int)) = True) ∧ ∃ a5 x5, A5 = some a5 ∧ (wr.alloc (.cells #[.int .i64 z.f0.f0, .int .i64 z.f0.f1, .int .i64 z.f0.f2, .string z.f0.f3, .string z.f1] 104)).cell? (a5.add z.f0.f2.toNat) = some (.int .i64 x5) ∧ IntKind.i64.wrap (x5 + 1) = dv) ∨ ((((0 : Int) ≤ z.f0.f2) = False) ∧ dv = 0)) := by
    unfold depL at hdv
    by_cases hp : 0 ≤ z.f0.f2
    ·rw [if_pos hp] at hdv
     obtain ⟨a5, e5, r5⟩ := Kd.at_int (Kd.R_reads' HM.out.rd).2.2 z.f0.f2 hp (by omega)
     have hm : dl.getD z.f0.f2.toNat 0 ∈ dl := by
      rw [List.getD_eq_getElem?_getD, List.getElem?_eq_getElem (by omega)]; exact List.getElem_mem _
     have hb := d3 _ hm
     exact ⟨by omega, by omega, .inl ⟨eq_true hp, eq_true (by omega), a5, _, e5, ((below_alloc (Below.refl _ _) _).cell (World.block_lt_of_cell? wr _ r5)).trans r5, by
      show IntKind.i64.wrap (dl.getD z.f0.f2.toNat 0 + 1) = dv
      rw [IntKind.wrap_i64]; omega⟩⟩
    ·rw [if_neg hp] at hdv
     exact ⟨by omega, by omega, .inr ⟨eq_false hp, hdv.symm⟩⟩
   obtain ⟨dv0, dv1, hpar⟩ := hd0
   have hdd : Hid ((dl ++ [dv]).length = i + 1 ∧ (nmsL A1 z).length ≤ i + 1 ∧ ∀ y, y ∈ dl ++ [dv] → 0 ≤ y ∧ y ≤ ((i + 1 : Nat) : Int)) := Lib.hid ⟨by simp [d1], by have := nmsL_len A1 z; omega, fun y hy => by
    rcases List.mem_append.1 hy with h | h
    ·have := d3 y h; omega
    ·rw [List.mem_singleton.1 h]; omega⟩
   have HDV := Lib.hid (show 0 ≤ dv ∧ dv ≤ i + 1 from ⟨dv0, dv1⟩)
   have HDL := Lib.hid (show dl.length ≤ 1000000 by omega)
   have HAL := Lib.hid (show A1.length ≤ 400000 by omega)
   rw [d1] at HM ⊢
   rw [hdv] at HRES
   have HLT := Lib.hid hlt
   clear d1 d2 d3 HD k6 hlt dv0 dv1 hdv
   have HPAR := Lib.hid hpar
   clear hpar
   have hM1 := Lib.hid <| HM.out.alloc (.cells #[.int .i64 z.f0.f0, .int .i64 z.f0.f1, .int .i64 z.f0.f2, .string z.f0.f3, .string z.f1] 104)
   have hB1 := Lib.hid <| blk_new wr (.cells #[.int .i64 z.f0.f0, .int .i64 z.f0.f1, .int .i64 z.f0.f2, .string z.f0.f3, .string z.f1] 104)
   have hb0 : Hid (Below wr.heap.size wr (wr.alloc (.cells #[.int .i64 z.f0.f0, .int .i64 z.f0.f1, .int .i64 z.f0.f2, .string z.f0.f3, .string z.f1] 104))) := Lib.hid (below_alloc (Below.refl _ _) _)
   have hK : ((z.f0.f0 == 1) = true ∧ (((64 : Int) < dv) = True) ∧ none = L) ∨ ((((z.f0.f0 == 1) = true ∧ (((64 : Int) < dv) = False)) ∨ (z.f0.f0 == 1) = false) ∧ (z.f0.f0 != 3) = true ∧ nmsL A1 z = withL A1 z.f1 A1 [] false ∧ lim0 (Z.drop (i + 1)) (dl ++ [dv]) (nmsL A1 z) = L) ∨ ((z.f0.f0 == 1) = false ∧ (z.f0.f0 != 3) = false ∧ nmsL A1 z = A1 ∧ lim0 (Z.drop (i + 1)) (dl ++ [dv]) (nmsL A1 z) = L) := by
    have hres := HRES.out
    by_cases h1 : z.f0.f0 = 1
    ·by_cases h2 : 64 < dv
     ·rw [if_pos ⟨h1, h2⟩] at hres
      exact .inl ⟨by rw [h1]; rfl, eq_true h2, hres⟩
     ·rw [if_neg (fun e => h2 e.2)] at hres
      exact .inr (.inl ⟨.inl ⟨by rw [h1]; rfl, eq_false h2⟩, by rw [h1]; rfl, by unfold nmsL; rw [if_neg (by omega)], hres⟩)
    ·rw [if_neg (fun e => h1 e.1)] at hres
     by_cases h3 : z.f0.f0 = 3
     ·exact .inr (.inr ⟨by rw [h3]; rfl, by rw [h3]; rfl, by unfold nmsL; rw [if_pos h3], hres⟩)
     ·exact .inr (.inl ⟨.inr (by simpa using h1), by simpa using h3, by unfold nmsL; rw [if_neg h3], hres⟩)
   have HK := Lib.hid hK
   clear hK HRES
   rcases HPAR.out with ⟨q1, q2, a5, x5, rfl, s5, e5⟩ | ⟨q1, rfl⟩
   all_goals
    clear HPAR
    rcases HK.out with ⟨k1, k2, hL⟩ | ⟨⟨k1, k2⟩ | k1, k3, hN, hL⟩ | ⟨k1, k3, hN, hL⟩
    all_goals
     have HNM := Lib.hid hL
     clear HK hL
    ·have hr := HR.out
     rw [← HNM.out] at hr
     have HR' := Lib.hid hr
     clear hr
     go_wp2_with (at_builtin; refine app_i _ (.tmp 36) (.tmp 38) rfl rfl rfl rfl hM1.out.rd hM1.out.bel HDL.out ?_; intro v1 w2 ho hb hg; have hb2 := blk_grown hB1.out hg (Kd.R_ne hM1.out.rd hB1.out (by decide)); have y0 := (blk_cell hb2 0).trans (show _ = some (Value.int .i64 z.f0.f0) from rfl); have HM2 := Lib.hid (hM1.out.dep ho hb hg); have y1 := blk_frozen HM2.out.b2 0; have y2 := blk_frozen HM2.out.b2 1; have y3 := (blk_cell HM2.out.b2 0).trans (show _ = some (Value.slice none 0 0) from rfl); have y4 := (blk_cell HM2.out.b2 1).trans (show _ = some (Value.slice none 0 0) from rfl); clear ho hb hg hb2)
     refine bodyPost_ret (results_ct rfl _ _ w.heap.size 27 #[.slice none 0 0, .slice none 0 0] (0, 0) _ rfl (blk_set (blk_set HM2.out.b2 0 (.slice none 0 0)) 1 (.slice none 0 0)) Tryz.underlying27 rfl (by kernel_rfl)) rfl ?_
     exact ⟨_, _, by rw [← HR'.out]; rfl, by rw [← HR'.out]; exact Kd.R_nil _ _ _ _ _, by rw [← HR'.out]; exact Kd.R_nil _ _ _ _ _, (HM2.out.bel.setCell (Nat.le_refl _) _).setCell (Nat.le_refl _) _⟩
    iterate 2
     ·have HNN := Lib.hid hN
      clear hN
      go_wp2_with (first | (at_builtin; refine app_i _ (.tmp 36) (.tmp 38) rfl rfl rfl rfl hM1.out.rd hM1.out.bel HDL.out ?_; intro v1 w2 ho hb hg; have hb2 := blk_grown hB1.out hg (Kd.R_ne hM1.out.rd hB1.out (by decide)); have y0 := (blk_cell hb2 0).trans (show _ = some (Value.int .i64 z.f0.f0) from rfl); have y1 := (blk_cell hb2 4).trans (show _ = some (Value.string z.f1) from rfl); have HM2 := Lib.hid (hM1.out.dep ho hb hg); have y2 := (blk_cell HM2.out.b4 0).trans (show _ = some (Value.slice A6 A1.length c6) from rfl); clear ho hb hg hb2) | (go_at_call 68; refine (with_c rfl HAL.out z.f1 (Kd.R_reads' HM2.out.rn).2.2).mono ?_; rintro e w3 ⟨v3, rfl, hor, hb3⟩; have hr3 : Kd.R Kd.string 9 w3 w.heap.size (fun _ => True) v3 (nmsL A1 z) := (by rw [HNN.out]; rcases hor with ⟨rfl, e3⟩ | h3; (rw [e3]; exact Kd.R_below HM2.out.rn hb3); exact Kd.R_lower h3 HM2.out.bel.size); obtain ⟨A8, c8, rfl⟩ := Kd.R_slice hr3; have HR3 := Lib.hid hr3; have HM3 := Lib.hid (HM2.out.step hb3); have y3 := (blk_cell HM3.out.b4 0).trans (show _ = some (Value.slice A6 A1.length c6) from rfl); have y4 := blk_frozen HM3.out.b4 0; clear hor hb3 hr3))
      go_roundw
      case rel => exact ⟨_, _, _, i + 1, zz33, by first | rfl | go_num, hdd, HNM, Lib.hid (HM3.out.setN HR3.out)⟩
      case measure => have := HLT.out; simp [intOf]; omega
    ·rw [hN] at hdd HNM
     clear hN
     go_wp2_with (at_builtin; refine app_i _ (.tmp 36) (.tmp 38) rfl rfl rfl rfl hM1.out.rd hM1.out.bel HDL.out ?_; intro v1 w2 ho hb hg; have hb2 := blk_grown hB1.out hg (Kd.R_ne hM1.out.rd hB1.out (by decide)); have y0 := (blk_cell hb2 0).trans (show _ = some (Value.int .i64 z.f0.f0) from rfl); have y1 := (blk_cell hb2 4).trans (show _ = some (Value.string z.f1) from rfl); have HM2 := Lib.hid (hM1.out.dep ho hb hg); have y2 := (blk_cell HM2.out.b4 0).trans (show _ = some (Value.slice A6 A1.length c6) from rfl); clear ho hb hg hb2)
     go_roundw
     case rel => exact ⟨_, _, _, i + 1, zz33, by first | rfl | go_num, hdd, HNM, HM2⟩
     case measure => have := HLT.out; simp [intOf]; omega
  ·have hin : i = n := by omega
   subst hin
   have hres := HL.out
   rw [List.drop_eq_nil_of_le (by have := HN.out; omega)] at hres
   have hr := HR.out
   rw [← hres] at hr
   simp only [lim0] at hr
   have HR' := Lib.hid hr
   have p2 : ((i : Int) < (i : Int)) = False := eq_false (by omega)
   obtain ⟨A6, c6, rfl⟩ := Kd.R_slice HM.out.rn
   have x0 := (blk_cell HM.out.b4 0).trans (show _ = some (Value.slice A6 A1.length c6) from rfl)
   have hal := HD.out.2.1
   clear HL hres hr HR HD
   by_cases hth : 1000 < A1.length
   ·have p3 : ((1000 : Int) < (A1.length : Int)) = True := eq_true (by omega)
    have hr := HR'.out
    rw [if_pos hth] at hr
    have HR2 := Lib.hid hr
    have y1 := blk_frozen HM.out.b2 0
    have y2 := blk_frozen HM.out.b2 1
    have y3 := (blk_cell HM.out.b2 0).trans (show _ = some (Value.slice none 0 0) from rfl)
    have y4 := (blk_cell HM.out.b2 1).trans (show _ = some (Value.slice none 0 0) from rfl)
    clear hr hth
    go_wp2
    refine bodyPost_ret (results_ct rfl _ _ w.heap.size 27 #[.slice none 0 0, .slice none 0 0] (0, 0) _ rfl (blk_set (blk_set HM.out.b2 0 (.slice none 0 0)) 1 (.slice none 0 0)) Tryz.underlying27 rfl (by kernel_rfl)) rfl ?_
    exact ⟨_, _, by rw [← HR2.out]; rfl, by rw [← HR2.out]; exact Kd.R_nil _ _ _ _ _, by rw [← HR2.out]; exact Kd.R_nil _ _ _ _ _, (HM.out.bel.setCell (Nat.le_refl _) _).setCell (Nat.le_refl _) _⟩
   have p3 : ((1000 : Int) < (A1.length : Int)) = False := eq_false (by omega)
   have hr := HR'.out
   rw [if_neg hth] at hr
   have HR2 := Lib.hid hr
   have HAL := Lib.hid (show A1.length ≤ 400000 by omega)
   clear hr hth HR'
   go_wp2
   clear x0
   go_loopw [9] (fun v9 wr => ∃ (vD : Value) (m : Nat), m ≤ i ∧ v9 = .int .i64 m ∧ Hid (Lm w wr w.heap.size g4 u5 (.slice A6 A1.length c6) vD dl A1 ((Z.take m).map (nodL A1)))) (fun v9 wr => i - (intOf v9).toNat)
   case atStart => exact ⟨_, 0, by omega, rfl, HM⟩
   case round =>
    clear HM
    obtain ⟨vD, m, hm, rfl, HM⟩ := hrel
    by_cases hlt : m < i
    ·have hil : m < Z.length := by have := HN.out; omega
     obtain ⟨ad, hA, r0, r1, r2, r3, r4⟩ := at_T104 (Kd.C_below HC.out HM.out.bel) (m : Int) (by omega) (by omega)
     subst hA
     have hrd : rd_T104 Z (m : Int) = Z.getD m zm := rfl
     rw [hrd, Int.toNat_natCast] at r0 r1 r2 r3 r4
     have htk : Z.take (m + 1) = Z.take m ++ [Z.getD m zm] := by
      rw [List.take_succ_eq_append_getElem hil, List.getD_eq_getElem?_getD, List.getElem?_eq_getElem hil]; rfl
     obtain ⟨z, hz⟩ : ∃ z, Z.getD m zm = z := ⟨_, rfl⟩
     rw [hz] at r0 r1 r2 r3 r4 htk
     have p4 : ((0 : Int) ≤ (m : Int)) = True := eq_true (by omega)
     have p5 : ((m : Int) < (i : Int)) = True := eq_true (by omega)
     have e1 : IntKind.i64.wrap ((m : Int) + 1) = ((m + 1 : Nat) : Int) := zz15
     have HTK := Lib.hid htk
     have HLT := Lib.hid hlt
     obtain ⟨A7, c7, rfl⟩ := Kd.R_slice HM.out.rt
     have hlT : ((Z.take m).map (nodL A1)).length = m := by rw [List.length_map, List.length_take]; omega
     rw [hlT] at HM
     have HLT2 := Lib.hid hlT
     clear hz hrd hil htk hlt hlT
     have hM1 := Lib.hid (HM.out.alloc (.cells #[.int .i64 z.f0.f0, .int .i64 z.f0.f1, .int .i64 z.f0.f2, .string z.f0.f3] 41))
     have hB1 := Lib.hid (blk_new wr (.cells #[.int .i64 z.f0.f0, .int .i64 z.f0.f1, .int .i64 z.f0.f2, .string z.f0.f3] 41))
     have hmp : (Z.take (m + 1)).map (nodL A1) = (Z.take m).map (nodL A1) ++ [nodL A1 z] := by rw [HTK.out, List.map_append]; rfl
     have HMP := Lib.hid hmp
     clear hmp
     by_cases k3 : z.f0.f0 = 3
     ·have q1 : (z.f0.f0 != 3) = false := by rw [k3]; rfl
      have hnl : nodL A1 z = z.f0 := by unfold nodL; rw [if_pos k3]
      have HNL := Lib.hid hnl
      have y0 := (blk_cell hM1.out.b4 1).trans (show _ = some (Value.slice A7 m c7) from rfl)
      have y1 := blk_frozen hM1.out.b4 1
      clear hnl k3
      go_wp2_with (at_builtin; refine app_n z.f0 (.tmp 88) (.tmp 90) rfl rfl rfl rfl hM1.out.rt hM1.out.bel (by have := HLT2.out; have := HLT.out; omega) ?_; intro v1 w2 ho hb hg; obtain ⟨A8, c8, e8⟩ := Kd.R_slice ho; obtain ⟨l8, hl8⟩ : ∃ l8, ((Z.take m).map (nodL A1) ++ [z.f0]).length = l8 := ⟨_, rfl⟩; rw [hl8] at e8; subst e8; clear hl8; have b4 := blk_grown hM1.out.b4 hg (Kd.R_ne hM1.out.rt hM1.out.b4 (by decide)); have y2 := (blk_cell b4 1).trans (show _ = some (Value.slice A7 m c7) from rfl); have y3 := blk_frozen b4 1; have HM2 := Lib.hid (hM1.out.tree ho hb hg); clear ho hb hg b4)
      go_roundw
      case rel => exact ⟨_, m + 1, zz33, by first | rfl | go_num, by rw [HMP.out, HNL.out]; exact HM2⟩
      case measure => have := HLT.out; simp [intOf]; omega
     ·have q1 : (z.f0.f0 != 3) = true := by simpa using k3
      have hnl : nodL A1 z = ⟨z.f0.f0, numL z.f1 A1 0, z.f0.f2, z.f0.f3⟩ := by unfold nodL; rw [if_neg k3]
      have HNL := Lib.hid hnl
      clear hnl k3
      have hb1 : Below wr.heap.size wr (wr.alloc (.cells #[.int .i64 z.f0.f0, .int .i64 z.f0.f1, .int .i64 z.f0.f2, .string z.f0.f3] 41)) := below_alloc (Below.refl _ _) _
      have s4 := (hb1.cell (World.block_lt_of_cell? wr _ r4)).trans r4
      have y0 := (blk_cell hM1.out.b4 0).trans (show _ = some (Value.slice A6 A1.length c6) from rfl)
      clear hb1
      go_wp2
      go_region_with (go_at_call 69; refine (numref_c rfl HAL.out z.f1 (Kd.R_reads' (show Lm w _ _ _ _ _ _ _ _ _ from (by repeat (with_reducible first | exact hM1.out | apply Lm.drewN | apply Lm.drew))).rn).2.2).mono ?_; rintro e w2 ⟨rfl, hb2⟩; have hbw := below_step (show Below wr.heap.size wr _ from (by repeat (with_reducible first | exact below_alloc (Below.refl _ _) _ | apply pw_below_drewN | apply below_drew))) hb2; have HBW := Lib.hid hbw; have hbk := blk_below (show _ = _ from (by repeat (with_reducible first | exact hB1.out | apply blk_drewN | apply blk_drew))) hb2; have y1 := blk_frozen hbk 1; have y2 := (blk_cell hbk 1).trans (show _ = some (Value.int .i64 z.f0.f1) from rfl); have HBK := Lib.hid hbk; clear hb2 hbw hbk)
      all_goals
       have hbk := blk_set HBK.out 1 (.int .i64 (numL z.f1 A1 0))
       have HM3 := Lib.hid (HM.out.step (HBW.out.setCell (p := ⟨wr.heap.size, 1, none⟩) (Nat.le_refl _) (.int .i64 (numL z.f1 A1 0))))
       obtain ⟨nz, hnz⟩ : ∃ nz, numL z.f1 A1 0 = nz := ⟨_, rfl⟩
       have hnl := HNL.out
       rw [hnz] at hbk HM3 hnl ⊢
       generalize w2.setCell ⟨wr.heap.size, 1, none⟩ (.int .i64 nz) = w3 at hbk HM3 ⊢
       have HNL3 := Lib.hid hnl
       have t0 := (blk_cell hbk 0).trans (show _ = some (Value.int .i64 z.f0.f0) from rfl)
       have t1 := (blk_cell hbk 1).trans (show _ = some (Value.int .i64 nz) from rfl)
       have t2 := (blk_cell hbk 2).trans (show _ = some (Value.int .i64 z.f0.f2) from rfl)
       have t3 := (blk_cell hbk 3).trans (show _ = some (Value.string z.f0.f3) from rfl)
       have t4 := (blk_cell HM3.out.b4 1).trans (show _ = some (Value.slice A7 m c7) from rfl)
       clear hbk hnl hnz y1 y2 s4 y0 r0 r1 r2 r3 r4
       go_wp2_with (at_builtin; refine app_n ⟨z.f0.f0, nz, z.f0.f2, z.f0.f3⟩ (.tmp 88) (.tmp 90) rfl rfl rfl rfl HM3.out.rt HM3.out.bel (by have := HLT2.out; have := HLT.out; omega) ?_; intro v1 w4 ho hb hg; obtain ⟨A8, c8, e8⟩ := Kd.R_slice ho; obtain ⟨l8, hl8⟩ : ∃ l8, ((Z.take m).map (nodL A1) ++ [(⟨z.f0.f0, nz, z.f0.f2, z.f0.f3⟩ : Nod)]).length = l8 := ⟨_, rfl⟩; rw [hl8] at e8; subst e8; clear hl8; have b4 := blk_grown HM3.out.b4 hg (Kd.R_ne HM3.out.rt HM3.out.b4 (by decide)); have y2 := (blk_cell b4 1).trans (show _ = some (Value.slice A7 m c7) from rfl); have y3 := blk_frozen b4 1; have HM4 := Lib.hid (HM3.out.tree ho hb hg); clear ho hb hg b4)
       go_roundw
       case rel => exact ⟨_, m + 1, zz33, by first | rfl | go_num, by rw [HMP.out, HNL3.out]; exact HM4⟩
       case measure => have := HLT.out; simp [intOf]; omega
    ·have hmi : m = i := by omega
     subst hmi
     have hz : Z.take m = Z := List.take_of_length_le (by have := HN.out; omega)
     rw [hz] at HM
     have hr := HR2.out
     obtain ⟨A7, c7, rfl⟩ := Kd.R_slice HM.out.rt
     obtain ⟨l7, hl7⟩ : ∃ l7, (Z.map (nodL A1)).length = l7 := ⟨_, rfl⟩
     rw [hl7] at HM
     have t0 := (blk_cell HM.out.b4 0).trans (show _ = some (Value.slice A6 A1.length c6) from rfl)
     have t1 := (blk_cell HM.out.b4 1).trans (show _ = some (Value.slice A7 l7 c7) from rfl)
     have y1 := blk_frozen HM.out.b2 0
     have y2 := blk_frozen HM.out.b2 1
     have y3 := (blk_cell HM.out.b2 0).trans (show _ = some (Value.slice none 0 0) from rfl)
     have y4 := (blk_cell HM.out.b2 1).trans (show _ = some (Value.slice none 0 0) from rfl)
     clear hr hz hl7
     go_wp2
     refine bodyPost_ret (results_ct rfl _ _ w.heap.size 27 #[.slice A6 A1.length c6, .slice A7 l7 c7] (0, 0) _ rfl (blk_set (blk_set HM.out.b2 0 (.slice A6 A1.length c6)) 1 (.slice A7 l7 c7)) Tryz.underlying27 rfl (by kernel_rfl)) rfl ?_
     have h1 := Kd.R_set (Kd.R_set HM.out.rn HM.out.b2 (by decide) 0 (.slice A6 A1.length c6)) (blk_set HM.out.b2 0 (.slice A6 A1.length c6)) (by decide) 1 (.slice A7 l7 c7)
     have h2 := Kd.R_set (Kd.R_set HM.out.rt HM.out.b2 (by decide) 0 (.slice A6 A1.length c6)) (blk_set HM.out.b2 0 (.slice A6 A1.length c6)) (by decide) 1 (.slice A7 l7 c7)
     exact ⟨_, _, by rw [← HR2.out]; rfl, by rw [← HR2.out]; exact h1, by rw [← HR2.out]; exact h2, (HM.out.bel.setCell (Nat.le_refl _) _).setCell (Nat.le_refl _) _⟩
end
end Go.Proofs.YtlhhhlimjajnlaaGreat.X
end
