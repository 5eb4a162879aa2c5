/- Parts of the proof of canonTrees_holds, kept and merged by a program of mine (wip/tools/slim.py) out of my texts: P14f RCk -/
import Derived.Test.YtlhhhlimjajnlaaGreatSPt47
import Derived.Test.YtlhhhlimjajnlaaGreatSPt46
section
set_option linter.unusedVariables false
set_option linter.unusedSimpArgs false
namespace Go.Proofs.YtlhhhlimjajnlaaGreat.P14
open Go.RowKit Go.Proofs.YtlhhhlimjajnlaaGreat Go.Proofs.YtlhhhlimjajnlaaGreat.Q Go.Proofs.YtlhhhlimjajnlaaGreatW.PrintWords Go.Proofs.YtlhhhlimjajnlaaGreat.X Go.Proofs.YtlhhhlimjajnlaaGreat.Ck Go.Proofs.YtlhhhlimjajnlaaGreat.P11
def nmR (N : List ByteArray) (D : List Nod) : Int := if namesC N D = true then 0 else 1
def rsV (N : List ByteArray) (D : List Nod) (i : Nat) (op : List Int) : Int := if ((D.drop i).all (okNod N.length) && (run (prK (D.take i)) (prK (D.drop i)) op).isSome) = true then nmR N D else 1
def rnV (N : List ByteArray) (D : List Nod) (i : Nat) : Option (List Int) → Int
 | none => 1
 | some o => rsV N D (i + 1) o
section
variable {N : List ByteArray} {D : List Nod}
theorem rsV_step {i : Nat} {op : List Int} (hi : i < D.length) : rsV N D i op = if okNod N.length (D.getD i nz) = true then rnV N D i (right (prK (D.take i)) op (D.getD i nz) (D.getD i nz).f1) else 1 := by
 unfold rsV
 rw [drop_one hi, List.all_cons]
 by_cases c : okNod N.length (D.getD i nz) = true
 ·rw [if_pos c, c, Bool.true_and, show prK (D.getD i nz :: D.drop (i + 1)) = (D.getD i nz, (D.getD i nz).f1) :: prK (D.drop (i + 1)) from rfl, run]
  simp only
  cases hr : right (prK (D.take i)) op (D.getD i nz) (D.getD i nz).f1 with
  | none => simp [rnV]
  | some o =>
   show _ = rsV N D (i + 1) o
   unfold rsV
   rw [take_one hi, prK_app]; rfl
 ·rw [if_neg c]
  have : okNod N.length (D.getD i nz) = false := by simpa using c
  rw [this]; simp
theorem rw_next {i : Nat} {op o : List Int} (hi : i < D.length) (h : Rw (D.take i) op) (hr : right (prK (D.take i)) op (D.getD i nz) (D.getD i nz).f1 = some o) : Rw (D.take (i + 1)) o := by
 refine ⟨?_⟩
 rw [take_one hi, prK_app, show prK [D.getD i nz] = [(D.getD i nz, (D.getD i nz).f1)] from rfl, rows_snoc _ _ _ h.r]
 exact hr
theorem j4_go {i : Nat} {x : Nod} {r : Int} (hb : D.length ≤ 1000000) (hp : 0 ≤ x.f2) (hx : x.f2 < (i : Int)) (hi : i < D.length) (h : Ev (fun k => R4_Check.l1 k i ((x.f2.toNat + 1 : Nat) : Int) N D x.f0 x.f1 x.f2 x.f3) r) : Ev (fun k => R4_Check.j4 k i false N D x.f0 x.f1 x.f2 x.f3) r := by
 refine evU 1 h fun k => ?_
 show R4_Check.j4 (k + 1) (i : Int) false N D _ _ _ _ = _
 rw [R4_Check.j4, if_neg (by decide)]
 congr 1
 have := wrUp x.f2.toNat (by omega)
 rw [show ((x.f2.toNat : Nat) : Int) = x.f2 from by omega] at this
 exact this
theorem j4_no {i : Nat} {x : Nod} : Ev (fun k => R4_Check.j4 k i true N D x.f0 x.f1 x.f2 x.f3) 1 := by
 refine evN 1 fun k => ?_
 show R4_Check.j4 (k + 1) (i : Int) true N D _ _ _ _ = _
 rw [R4_Check.j4, if_pos rfl]
theorem evS {α : Type} {f : Nat → Option α} {a : α} (n : Nat) (h : Ev f a) : Ev (fun k => f (k + n)) a := by
 obtain ⟨K, hK⟩ := h
 exact ⟨K, fun k hk => hK _ (by omega)⟩
theorem evV2 {α β γ : Type} {F g : Nat → Option α} {f1 : Nat → Option β} {f2 : Nat → Option γ} {a : β} {b : γ} {r : α} (n : Nat) (h1 : Ev f1 a) (h2 : Ev f2 b) (hg : Ev g r) (h : ∀ k, f1 k = some a → f2 k = some b → F (k + n) = g k) : Ev F r := by
 obtain ⟨K, hK⟩ := h1
 obtain ⟨L, hL⟩ := h2
 obtain ⟨M, hM⟩ := hg
 exact ⟨K + L + M + n, fun k hk => by rw [show k = (k - n) + n from by omega, h _ (hK _ (by omega)) (hL _ (by omega))]; exact hM _ (by omega)⟩
def jb (D : List Nod) (b x0 : Int) : Bool := if b ≥ 0 then (if x0 = 2 then !((D.getD b.toNat nz).f0 == 2) else if x0 = 3 then (D.getD b.toNat nz).f0 == 3 else false) else false
theorem j3_step {i : Nat} {b x0 x1 x2 : Int} {x3 : ByteArray} (k : Nat) (hb : b ≥ 0 → b < (D.length : Int)) : R4_Check.j3 (k + 1) i b false N D x0 x1 x2 x3 = R4_Check.j4 k i (jb D b x0) N D x0 x1 x2 x3 := by
 rw [R4_Check.j3, if_neg (by decide)]
 unfold jb
 by_cases c : b ≥ 0
 ·rw [if_pos c, if_pos c, if_pos c, if_pos (hb c), if_pos (show (0 : Int) ≤ b from c), if_pos (hb c), rdI]
  by_cases k2 : x0 = 2
  ·rw [if_pos k2, if_pos k2]
   by_cases c2 : (D.getD b.toNat nz).f0 = 2
   ·rw [if_pos c2, if_neg (by omega), c2]; rfl
   ·rw [if_neg c2, show ((D.getD b.toNat nz).f0 == 2) = false from by simpa using c2]; rfl
  ·rw [if_neg k2, if_neg k2]
   by_cases k3 : x0 = 3
   ·rw [if_pos k3, if_pos k3]
   ·rw [if_neg k3, if_neg k3]
 ·rw [if_neg c, if_neg c]
theorem j2_go {i : Nat} {x : Nod} {b dep r : Int} (hbe : Ev (fun k => R4_before.f k N D (i : Int)) b) (hde : Ev (fun k => R4_depth.f k N D (i : Int)) dep) (hd : x.f0 = 1 → ¬ dep > 64) (hb : b ≥ 0 → b < (D.length : Int)) (h4 : Ev (fun k => R4_Check.j4 k i (jb D b x.f0) N D x.f0 x.f1 x.f2 x.f3) r) :
 Ev (fun k => R4_Check.j2 k i false N D x.f0 x.f1 x.f2 x.f3) r := by
 refine evV2 2 (evS 1 hbe) (evS 1 hde) h4 fun k h1 h2 => ?_
 show R4_Check.j2 (k + 1 + 1) (i : Int) false N D _ _ _ _ = _
 rw [R4_Check.j2, if_neg (by decide), h1, Option.bind_some]
 by_cases k1 : x.f0 = 1
 ·rw [if_pos k1, h2, Option.bind_some, show decide (dep > 64) = false from decide_eq_false (hd k1), j3_step k hb]
 ·rw [if_neg k1, j3_step k hb]
theorem j2_deep {i : Nat} {x : Nod} {b dep : Int} (hbe : Ev (fun k => R4_before.f k N D (i : Int)) b) (hde : Ev (fun k => R4_depth.f k N D (i : Int)) dep) (k1 : x.f0 = 1) (hd : dep > 64) :
 Ev (fun k => R4_Check.j2 k i false N D x.f0 x.f1 x.f2 x.f3) 1 := by
 refine evV2 2 (evS 1 hbe) (evS 1 hde) (g := fun _ => some 1) ⟨0, fun _ _ => rfl⟩ fun k h1 h2 => ?_
 show R4_Check.j2 (k + 1 + 1) (i : Int) false N D _ _ _ _ = _
 rw [R4_Check.j2, if_neg (by decide), h1, Option.bind_some, if_pos k1, h2, Option.bind_some, show decide (dep > 64) = true from decide_eq_true hd, R4_Check.j3, if_pos rfl]
theorem op_short {i : Nat} {op : List Int} (hb : D.length ≤ 5000) (hi : i ≤ D.length) (h : Rw (D.take i) op) : op.length ≤ 100000 := by
 by_cases hc : op.length ≤ 100000
 ·exact hc
 ·exfalso
  have hge : ∀ n : Nat, n < op.length → ∀ z, op[n]? = some z → (n : Int) ≤ z := by
   intro n
   induction n with
   | zero => intro _ z hz; exact (h.at hz).1
   | succ n ihn =>
    intro hn z hz
    have hg : op[n]? = some op[n] := List.getElem?_eq_getElem (by omega)
    have h1 := ihn (by omega) _ hg
    have h2 := h.path.lt 0 n _ z hg hz
    omega
  have hg : op[100000]? = some op[100000] := List.getElem?_eq_getElem (by omega)
  have h1 := hge 100000 (by omega) _ hg
  have h2 := (h.at hg).2.1
  rw [take_len hi] at h2
  omega
theorem take_ne {i : Nat} (hi : i ≤ D.length) (h0 : 0 < i) : ¬ prK (D.take i) = [] := by
 intro e
 have := congrArg List.length e
 rw [prK_len, take_len hi, List.length_nil] at this
 omega
theorem j2_ev {i : Nat} {op : List Int} (hb : D.length ≤ 5000) (hi : i < D.length) (h0 : 0 < i) (h : Rw (D.take i) op) (hk : (D.getD i nz).f0 = 1 ∨ (D.getD i nz).f0 = 2 ∨ (D.getD i nz).f0 = 3) (hm : (D.getD i nz).f2 ∈ op)
 (ih : ∀ o, right (prK (D.take i)) op (D.getD i nz) (D.getD i nz).f1 = some o → Ev (fun k => R4_Check.l0 k ((i + 1 : Nat) : Int) N D) (rnV N D i (some o))) :
 Ev (fun k => R4_Check.j2 k i false N D (D.getD i nz).f0 (D.getD i nz).f1 (D.getD i nz).f2 (D.getD i nz).f3) (rnV N D i (right (prK (D.take i)) op (D.getD i nz) (D.getD i nz).f1)) := by
 have hb' : D.length ≤ 1000000 := by omega
 obtain ⟨j, hj⟩ := List.mem_iff_getElem?.1 hm
 obtain ⟨p1, p2, p3, p4⟩ := h.at hj
 rw [take_len (by omega)] at p2
 have hjl := (List.getElem?_eq_some_iff.1 hj).1
 have hbe := before_ev (N := N) hb' hi p1
 have hbk := fun _ : Unit => bef_kids (by omega) h p1 i (Nat.le_refl _)
 have hidx : op.idxOf (D.getD i nz).f2 = j := h.path.idx j _ hj
 have hde := depth_ev (N := N) hi h (op_short hb (by omega) h) hj
 have hbl : bef D (D.getD i nz).f2 i ≥ 0 → bef D (D.getD i nz).f2 i < (D.length : Int) := by
  intro e
  rcases hbk () with ⟨e', -⟩ | ⟨q, hq, e', -⟩ <;> omega
 generalize bef D (D.getD i nz).f2 i = b at *
 have hlen : (op.take (j + 1)).length = j + 1 := by rw [List.length_take]; omega
 rw [right_in (take_ne (by omega) h0) hm, hidx] at ih ⊢
 have htw := fun _ : Unit => dup_twice (x := D.getD i nz) (by omega) h p1
 have hal := attr_last _ _ _ rfl h.r (D.getD i nz).f2
 have hx : (D.getD i nz).f2 < (i : Int) := by omega
 clear hm hidx hj p4
 generalize D.getD i nz = x at *
 have l1n : ∀ {r}, Ev (fun k => R4_Check.l0 k ((i + 1 : Nat) : Int) N D) r → (∀ k : Nat, x.f2 < (k : Int) → k < i → ¬ (x.f0 = 2 ∧ dup D x k)) → Ev (fun k => R4_Check.j4 k i false N D x.f0 x.f1 x.f2 x.f3) r := fun hr hno =>
  j4_go hb' p1 hx hi (l1_no hb' hi hr hno i (x.f2.toNat + 1) (by omega) (by omega) (by omega))
 by_cases k1 : x.f0 = 1
 ·rw [if_pos k1, hlen] at ih ⊢
  by_cases c : 64 < j + 1
  ·rw [if_pos c]
   exact j2_deep hbe hde k1 (by omega)
  ·rw [if_neg c] at ih ⊢
   refine j2_go hbe hde (fun _ => by omega) hbl ?_
   have e : jb D b x.f0 = false := by unfold jb; rw [if_neg (show ¬ x.f0 = 2 from by omega), if_neg (show ¬ x.f0 = 3 from by omega)]; split <;> rfl
   rw [e]
   exact l1n (ih _ rfl) fun _ _ _ e => by omega
 ·rw [if_neg k1] at ih ⊢
  have hgo : ∀ {r}, Ev (fun k => R4_Check.j4 k i (jb D b x.f0) N D x.f0 x.f1 x.f2 x.f3) r → Ev (fun k => R4_Check.j2 k i false N D x.f0 x.f1 x.f2 x.f3) r := fun h4 => j2_go hbe hde (fun e => absurd e k1) hbl h4
  refine hgo ?_
  by_cases k2 : x.f0 = 2
  ·rw [if_pos k2] at ih ⊢
   have fin : more (prK (D.take i)) x.f2 = false → jb D b x.f0 = false → Ev (fun k => R4_Check.j4 k i (jb D b x.f0) N D x.f0 x.f1 x.f2 x.f3) (rnV N D i (if more (prK (D.take i)) x.f2 = true ∨ twice (prK (D.take i)) x.f2 x.f1 = true then none else some (op.take (j + 1)))) := by
    intro e1 e2
    rw [e2]
    rw [e1] at ih ⊢
    by_cases ct : twice (prK (D.take i)) x.f2 x.f1 = true
    ·rw [if_pos (.inr ct)]
     obtain ⟨q, q1, q2, q3⟩ := (htw ()).1 ct
     exact j4_go hb' p1 hx hi (l1_yes hb' hi k2 q1 q3 (q - (x.f2.toNat + 1)) (x.f2.toNat + 1) (by omega))
    ·rw [if_neg (fun e => e.elim (by decide) ct)] at ih ⊢
     exact l1n (ih _ rfl) fun k e1 e2 e3 => ct ((htw ()).2 ⟨k, e2, e1, e3.2⟩)
   rcases hbk () with ⟨e0, hkid⟩ | ⟨q, hq, e0, hlast⟩ <;> clear hbk <;> subst e0
   ·exact fin (by unfold more; rw [hkid]; rfl) rfl
   ·by_cases c : (D.getD q nz).f0 = 2
    ·refine fin (hal _ hlast c) ?_
     unfold jb
     rw [if_pos (by omega), if_pos k2, Int.toNat_natCast, c]; rfl
    ·have e1 : more (prK (D.take i)) x.f2 = true := by
      unfold more
      rw [List.any_eq_true]
      exact ⟨_, List.mem_of_getLast? hlast, by simpa using c⟩
     have e2 : jb D (q : Int) x.f0 = true := by
      unfold jb
      rw [if_pos (by omega), if_pos k2, Int.toNat_natCast, show ((D.getD q nz).f0 == 2) = false from by simpa using c]; rfl
     rw [e2, if_pos (.inl e1)]
     exact j4_no
  ·have k3 : x.f0 = 3 := by omega
   rw [if_neg k2] at ih ⊢
   rcases hbk () with ⟨e0, hkid⟩ | ⟨q, hq, e0, hlast⟩ <;> clear hbk <;> subst e0
   ·have e1 : textLast (prK (D.take i)) x.f2 = false := by unfold textLast; rw [hkid]; rfl
    rw [e1, if_neg (by decide)] at ih ⊢
    exact l1n (ih _ rfl) fun _ _ _ e => k2 e.1
   ·have e1 : textLast (prK (D.take i)) x.f2 = decide ((D.getD q nz).f0 = 3) := by unfold textLast; rw [hlast]
    have e2 : jb D (q : Int) x.f0 = decide ((D.getD q nz).f0 = 3) := by
     unfold jb
     rw [if_pos (by omega), if_neg k2, if_pos k3, Int.toNat_natCast]
     by_cases c : (D.getD q nz).f0 = 3
     ·rw [c]; rfl
     ·rw [decide_eq_false c]; simpa using c
    rw [e1] at ih ⊢
    rw [e2]
    by_cases c : (D.getD q nz).f0 = 3
    ·rw [decide_eq_true c, if_pos rfl]
     exact j4_no
    ·rw [decide_eq_false c, if_neg (by decide)] at ih ⊢
     exact l1n (ih _ rfl) fun _ _ _ e => k2 e.1
theorem j2_bad {i : Nat} {x : Nod} : Ev (fun k => R4_Check.j2 k i true N D x.f0 x.f1 x.f2 x.f3) 1 := by
 refine evN 1 fun k => ?_
 show R4_Check.j2 (k + 1) (i : Int) true N D _ _ _ _ = _
 rw [R4_Check.j2, if_pos rfl]
theorem l0_ev (hb : D.length ≤ 5000) (hN : N.length ≤ 1000000) (hs : ∀ x, x ∈ N → x.size ≤ 4294967296) (hD : ∀ x, x ∈ D → x.f3.size ≤ 4294967296) : ∀ (d i : Nat) (op : List Int), 0 < i → i + d = D.length → Rw (D.take i) op → Ev (fun k => R4_Check.l0 k i N D) (rsV N D i op)
 | 0, i, op, h0, hd, h => by
  have hn := names_ev (D := D) hN hs (by omega) N.length 0 (by omega)
  rw [← names_all] at hn
  refine evU 1 (f := fun k => R4_Check.l2 k ((0 : Nat) : Int) N D) ?_ fun k => ?_
  ·have : rsV N D i op = nmR N D := by
    unfold rsV
    rw [List.drop_of_length_le (by omega)]; rfl
   rw [this]; exact hn
  ·show R4_Check.l0 (k + 1) (i : Int) N D = _
   rw [R4_Check.l0, if_neg (by omega)]; rfl
 | d + 1, i, op, h0, hd, h => by
  have hi : i < D.length := by omega
  have hnd := node_ev (N := N) hD hi
  rw [rsV_step hi]
  by_cases c : okNod N.length (D.getD i nz) = true
  case neg =>
   rw [if_neg c]
   refine evW 1 hnd fun k hk => ?_
   show R4_Check.l0 (k + 1) (i : Int) N D = _
   rw [R4_Check.l0, if_pos (by omega), if_pos (by omega), hk, Option.bind_some, if_neg c]
  rw [if_pos c]
  rw [c] at hnd
  have ih : ∀ o, right (prK (D.take i)) op (D.getD i nz) (D.getD i nz).f1 = some o → Ev (fun k => R4_Check.l0 k ((i + 1 : Nat) : Int) N D) (rnV N D i (some o)) := fun o ho =>
   l0_ev hb hN hs hD d (i + 1) o (by omega) (by omega) (rw_next hi h ho)
  have hkind : (D.getD i nz).f0 = 1 ∨ (D.getD i nz).f0 = 2 ∨ (D.getD i nz).f0 = 3 := by
   unfold okNod at c
   rw [Bool.and_eq_true] at c
   exact named_kinds c.1
  have hout : ¬ (D.getD i nz).f2 ∈ op → rnV N D i (right (prK (D.take i)) op (D.getD i nz) (D.getD i nz).f1) = 1 := fun e => by rw [right_out (take_ne (by omega) h0) e]; rfl
  have hin : (D.getD i nz).f2 ∈ op → 0 ≤ (D.getD i nz).f2 ∧ (D.getD i nz).f2 < (i : Int) ∧ (D.getD (D.getD i nz).f2.toNat nz).f0 = 1 := fun e => by
   obtain ⟨j, hj⟩ := List.mem_iff_getElem?.1 e
   obtain ⟨p1, p2, p3, p4⟩ := h.at hj
   rw [take_len (by omega)] at p2
   rw [take_get p2 (by omega)] at p3
   exact ⟨p1, by omega, p3⟩
  by_cases c1 : (D.getD i nz).f2 < 0
  ·rw [hout (fun e => by have := (hin e).1; omega)]
   refine evV 1 hnd (j2_bad (N := N) (D := D) (i := i) (x := D.getD i nz)) fun k hk => ?_
   show R4_Check.l0 (k + 1) (i : Int) N D = _
   rw [R4_Check.l0, if_pos (by omega), if_pos (by omega), hk, Option.bind_some, if_pos rfl, if_neg (by omega), rdT, if_pos c1]
  by_cases c2 : (D.getD i nz).f2 ≥ (i : Int)
  ·rw [hout (fun e => by have := (hin e).2.1; omega)]
   refine evV 1 hnd (j2_bad (N := N) (D := D) (i := i) (x := D.getD i nz)) fun k hk => ?_
   show R4_Check.l0 (k + 1) (i : Int) N D = _
   rw [R4_Check.l0, if_pos (by omega), if_pos (by omega), hk, Option.bind_some, if_pos rfl, if_neg (by omega), rdT, if_neg c1, if_pos c2]
  by_cases c3 : (D.getD (D.getD i nz).f2.toNat nz).f0 = 1
  case neg =>
   rw [hout (fun e => c3 (hin e).2.2)]
   refine evV 1 hnd (j2_bad (N := N) (D := D) (i := i) (x := D.getD i nz)) fun k hk => ?_
   show R4_Check.l0 (k + 1) (i : Int) N D = _
   rw [R4_Check.l0, if_pos (by omega), if_pos (by omega), hk, Option.bind_some, if_pos rfl, if_neg (by omega), rdT, if_neg c1, if_neg c2, if_pos (by omega), if_pos (by omega), rdI, if_neg c3]
  have har := around_ev (N := N) (by omega) hi h0 h c3 (by omega)
  by_cases c4 : (D.getD i nz).f2 ∈ op
  ·rw [decide_eq_true c4] at har
   refine evV2 1 hnd har (j2_ev hb hi h0 h hkind c4 ih) fun k hk hk2 => ?_
   show R4_Check.l0 (k + 1) (i : Int) N D = _
   rw [R4_Check.l0, if_pos (by omega), if_pos (by omega), hk, Option.bind_some, if_pos rfl, if_neg (by omega), rdT, if_neg c1, if_neg c2, if_pos (by omega), if_pos (by omega), rdI, if_pos c3, hk2, Option.bind_some]; rfl
  ·rw [decide_eq_false c4] at har
   rw [hout c4]
   refine evV2 1 hnd har (j2_bad (N := N) (D := D) (i := i) (x := D.getD i nz)) fun k hk hk2 => ?_
   show R4_Check.l0 (k + 1) (i : Int) N D = _
   rw [R4_Check.l0, if_pos (by omega), if_pos (by omega), hk, Option.bind_some, if_pos rfl, if_neg (by omega), rdT, if_neg c1, if_neg c2, if_pos (by omega), if_pos (by omega), rdI, if_pos c3, hk2, Option.bind_some]; rfl
theorem threeB (a b c : Bool) (x : Int) : (if (!(a && b && c)) = true then (1 : Int) else x) = if a = true then (if (b && c) = true then x else 1) else 1 := by cases a <;> cases b <;> cases c <;> rfl
theorem check_ev (hs : ∀ x, x ∈ N → x.size ≤ 4294967296) (hD : ∀ x, x ∈ D → x.f3.size ≤ 4294967296) : Ev (fun k => R4_Check.f k N D) (checkV N D) := by
 have bad : ∀ {b : Bool}, b = true → Ev (fun k => R4_Check.j0 k b N D) 1 := fun e => evN 1 fun k => by
  show R4_Check.j0 (k + 1) _ N D = _
  rw [R4_Check.j0, if_pos e]
 unfold R4_Check.f checkV
 by_cases c1 : D.length = 0
 ·rw [if_pos (.inl c1)]
  simp only [show (D.length : Int) = 0 from by omega, if_true]
  exact bad rfl
 by_cases c2 : 5000 < D.length
 ·rw [if_pos (.inr (.inl c2))]
  simp only [show ¬ (D.length : Int) = 0 from by omega, show (D.length : Int) > 5000 from by omega, if_true, if_false]
  exact bad rfl
 by_cases c3 : 1000 < N.length
 ·rw [if_pos (.inr (.inr c3))]
  simp only [show ¬ (D.length : Int) = 0 from by omega, show ¬ (D.length : Int) > 5000 from by omega, show (N.length : Int) > 1000 from by omega, if_true, if_false]
  exact bad rfl
 have hpos : 0 < D.length := by omega
 rw [if_neg (by omega)]
 simp only [show ¬ (D.length : Int) = 0 from by omega, show ¬ (D.length : Int) > 5000 from by omega, show ¬ (N.length : Int) > 1000 from by omega, show 0 < (D.length : Int) from by omega, if_true, if_false]
 have e0 : rd_T41 D 0 = D.getD 0 nz := rfl
 rw [e0]
 have hnr := nodes_rows N.length D
 have hD0 : D = D.getD 0 nz :: D.drop 1 := by have := drop_one (D := D) (i := 0) hpos; rw [List.drop_zero] at this; exact this
 have hrows : (rows (prK D)).isSome = (match right [] [] (D.getD 0 nz) (D.getD 0 nz).f1 with | none => false | some o => (run (prK (D.take 1)) (prK (D.drop 1)) o).isSome) := by
  have e : rows (prK D) = (run [] (prK (D.getD 0 nz :: D.drop 1)) []).map Prod.snd := by rw [← hD0]; rfl
  rw [e, show prK (D.getD 0 nz :: D.drop 1) = (D.getD 0 nz, (D.getD 0 nz).f1) :: prK (D.drop 1) from rfl, run]
  simp only
  cases hr : right [] [] (D.getD 0 nz) (D.getD 0 nz).f1 with
  | none => rfl
  | some o =>
   rw [show D.take 1 = [D.getD 0 nz] from by have := take_one (D := D) (i := 0) hpos; simpa using this]
   show (Option.map Prod.snd (run [(D.getD 0 nz, (D.getD 0 nz).f1)] (prK (D.drop 1)) o)).isSome = (run [(D.getD 0 nz, (D.getD 0 nz).f1)] (prK (D.drop 1)) o).isSome
   cases run [(D.getD 0 nz, (D.getD 0 nz).f1)] (prK (D.drop 1)) o <;> rfl
 have hall : D.all (okNod N.length) = (okNod N.length (D.getD 0 nz) && (D.drop 1).all (okNod N.length)) := by rw [← List.all_cons, ← hD0]
 have hroot : right ([] : List (Nd × Int)) [] (D.getD 0 nz) (D.getD 0 nz).f1 = if (D.getD 0 nz).f0 = 1 ∧ (D.getD 0 nz).f2 = -1 then some [0] else none := by unfold right; rw [if_pos rfl]
 by_cases c : (D.getD 0 nz).f0 = 1 ∧ (D.getD 0 nz).f2 = -1
 ·simp only [if_pos c.1]
  rw [c.2, show ((-1 : Int) != -1) = false from rfl]
  rw [hroot, if_pos c] at hrows
  have hr1 : Rw (D.take 1) [0] := by
   refine ⟨?_⟩
   rw [show D.take 1 = [D.getD 0 nz] from by have := take_one (D := D) (i := 0) hpos; simpa using this]
   show (Option.map Prod.snd (run [] [(D.getD 0 nz, (D.getD 0 nz).f1)] [])) = _
   rw [run]
   simp only [hroot, if_pos c]; rfl
  have hnd := node_ev (N := N) hD hpos
  have hl := l0_ev (by omega) (by omega) hs hD (D.length - 1) 1 [0] (by omega) (by omega) hr1
  have hval : (if (nodesC N.length D 0 (zeroC D.length)).isNone = true then (1 : Int) else if namesC N D = true then 0 else 1) = if okNod N.length (D.getD 0 nz) = true then rsV N D 1 [0] else 1 := by
   have e : (nodesC N.length D 0 (zeroC D.length)).isNone = !(nodesC N.length D 0 (zeroC D.length)).isSome := by cases nodesC N.length D 0 (zeroC D.length) <;> rfl
   rw [e, hnr, hall, hrows]
   simp only
   unfold rsV nmR
   exact threeB _ _ _ _
  rw [hval]
  refine evU 1 (f := fun k => R4_Check.l0 k ((0 : Nat) : Int) N D) ?_ fun k => ?_
  ·by_cases ck : okNod N.length (D.getD 0 nz) = true
   ·rw [if_pos ck]
    rw [ck] at hnd
    refine evV 1 hnd hl fun k hk => ?_
    show R4_Check.l0 (k + 1) ((0 : Nat) : Int) N D = _
    rw [R4_Check.l0, if_pos (by omega), if_pos (by omega), hk, Option.bind_some, if_pos rfl, if_pos (by rfl), wrUp 0 (by omega)]
   ·rw [if_neg ck]
    refine evW 1 hnd fun k hk => ?_
    show R4_Check.l0 (k + 1) ((0 : Nat) : Int) N D = _
    rw [R4_Check.l0, if_pos (by omega), if_pos (by omega), hk, Option.bind_some, if_neg ck]
  ·show R4_Check.j0 (k + 1) false N D = _
   rw [R4_Check.j0, if_neg (by decide)]; rfl
 ·rw [hroot, if_neg c] at hrows
  have e : (nodesC N.length D 0 (zeroC D.length)).isNone = true := by
   have e : (nodesC N.length D 0 (zeroC D.length)).isNone = !(nodesC N.length D 0 (zeroC D.length)).isSome := by cases nodesC N.length D 0 (zeroC D.length) <;> rfl
   rw [e, hnr, hrows]; simp
  rw [if_pos e]
  by_cases cc : (D.getD 0 nz).f0 = 1
  ·simp only [if_pos cc]
   exact bad (by simpa using fun e => c ⟨cc, e⟩)
  ·simp only [if_neg cc]
   exact bad rfl
end
end Go.Proofs.YtlhhhlimjajnlaaGreat.P14
end
section
set_option linter.unusedVariables false
set_option linter.unusedSimpArgs false
namespace Go.Proofs.YtlhhhlimjajnlaaGreat.X
open Go.RowKit Go.Proofs.YtlhhhlimjajnlaaGreat Go.Proofs.YtlhhhlimjajnlaaGreat.Q Go.Proofs.YtlhhhlimjajnlaaGreat.P14 Go.Proofs.YtlhhhlimjajnlaaGreatW.PrintWords Go.Proofs.YtlhhhlimjajnlaaGreatW.PrintLast Go.Proofs.YtlhhhlimjajnlaaGreatW.PrintMore
theorem refcheck_c {N : List ByteArray} {D : List Nod} {w : World} {AN AD : Option Addr} {cN cD : Nat} (hN : Kd.C Kd.string w AN N.length N) (hcN : N.length ≤ cN) (hD : Kd.C k41 w AD D.length D) (hcD : D.length ≤ cD) (hs : ∀ x, x ∈ N → x.size ≤ 1000000000) (hx : ∀ x, x ∈ D → x.f3.size ≤ 1000000000) :
 Calls Tryz.prog 20 #[.agg #[.slice AN N.length cN, .slice AD D.length cD]] w fun e w' => e = .returned (.int .i64 (checkV N D)) ∧ Below w.heap.size w w' := by
 obtain ⟨K, hK⟩ := check_ev (N := N) (D := D) (fun x h => Nat.le_trans (hs x h) (by omega)) (fun x h => Nat.le_trans (hx x h) (by omega))
 exact R4_Check.calls K AN cN N AD cD D _ w hN hcN hD hcD (hK K (Nat.le_refl _))
end Go.Proofs.YtlhhhlimjajnlaaGreat.X
end
